import Derived.Test.YtjpnbdofbkoddaaDoorOShapeSeedsx6T
import Derived.LoopTactic
import Derived.Test.YtjpnbdofbkoddaaDoorRows
import Derived.Lib.LaidTab
import Derived.LaidMore
import Derived.Stop.Joined
import Derived.Lib.SliceRun
import Derived.Test.YtjpnbdofbkoddaaDoorMgDT
import Derived.Test.YtjpnbdofbkoddaaDoorShapeNoiseT
import Derived.Test.YtjpnbdofbkoddaaDoorShoT
set_option linter.unusedVariables false
set_option linter.unusedSimpArgs false
namespace Go.Proofs.YtjpnbdofbkoddaaDoor.Spread
open Go.RowKit Go.Proofs.YtjpnbdofbkoddaaDoorW.PrintWords Go.Proofs.YtjpnbdofbkoddaaDoorW.PrintLast Go.Proofs.YtjpnbdofbkoddaaDoorW.PrintMore
open Go.Lib (tabData mapM_at mapM_length cells_of_tab)
attribute [local go_sem] max2_int min2_int max_two min_two max_three min_three max_four min_four
theorem cells_of_tab2 {H : Type} {enc : TypeId × Value → H} {P : Program} {w : World} {base : Nat} {sp : Nat → Bool} {held : Bool} {fuel : Nat} {t e f : TypeId} {n m : Nat} {k : IntKind} {cs : List Value} {zss : List (List Int)} {p : List MemPlace}
 (ht : P.underlying t = some (.array n e)) (he : P.underlying e = some (.array m f)) (hf : P.underlying f = some (.int k)) (hcf : P.cellsOf f = 1) (hce : P.cellsOf e = m) (hct : P.cellsOf t = n * m)
 (h : DataW.trod enc P w base sp held fuel t cs = some (.agg (zss.map (tabData k)), p)) : cs.length = n * m ∧ zss.length = n ∧ ∀ i : Nat, i < n → (cs.drop (i * m)).take m = (zss.getD i []).map fun z => Value.int k z := by
 cases fuel with
 | zero => simp [DataW.trod] at h
 | succ fuel =>
  simp only [DataW.trod, ht, hce, hct] at h
  split at h
  ·rename_i hl
   obtain ⟨xs, hm, hx⟩ := Option.map_eq_some_iff.1 h
   have hxs : xs.map (·.1) = zss.map (tabData (H := H) k) := by
    have := congrArg Prod.fst hx
    simpa using this
   have hxl : xs.length = n := by simpa using mapM_length hm
   have hzl : zss.length = n := by
    have := congrArg List.length hxs
    simp at this
    omega
   refine ⟨by simpa using hl, hzl, fun i hi => ?_⟩
   obtain ⟨b, hb, hg⟩ := mapM_at hm i i (by simp [hi])
   have h2 : (xs.map (·.1))[i]? = some b.1 := by simp [hb]
   rw [hxs, List.getElem?_map] at h2
   obtain ⟨zs, hz, hbz⟩ := Option.map_eq_some_iff.1 h2
   have hgd : zss.getD i [] = zs := by simp [List.getD, hz]
   rw [hgd]
   exact cells_of_tab (zs := zs) (p := b.2) he hf hcf hce (hg.trans (by rw [hbz]))
  ·cases h
def cosines : List Int := [32768, 32138, 30274, 27246]
def sines : List Int := [0, 6393, 12540, 18205]
def Laid (w : World) : Prop := ∀ i : Nat, i < 4 → w.cell? ⟨2, i * 2, none⟩ = some (.int .i64 (cosines.getD i 0)) ∧ w.cell? ⟨2, i * 2 + 1, none⟩ = some (.int .i64 (sines.getD i 0))
theorem Laid.below {w w' : World} (h : Laid w) (hb : Below w.heap.size w w') : Laid w' := fun i hi => ⟨pw_cell_below hb (h i hi).1, pw_cell_below hb (h i hi).2⟩
theorem gAngles : Tryd.prog.globalNamed "spinet/spread.angles" = some 2 := by kernel_rfl
def table : List (List Int) := [[32768, 0], [32138, 6393], [30274, 12540], [27246, 18205]]
theorem table_at : ∀ i : Nat, i < 4 → table.getD i [] = [cosines.getD i 0, sines.getD i 0] := by decide
theorem of_laid {W : World} (h : laidMetH Tryd.prog [("spinet/spread.angles", Rows.laid_spinet_spread_angles)] W) : Laid W := by
 rw [MakeChecks.laidMetH_plain _ _ _ (by kernel_rfl)] at h
 obtain ⟨ps, ⟨g', t', cs, fuel, p, q, hg', ht', hvar, hd, _, _⟩, _⟩ := h
 obtain rfl := Option.some.inj (gAngles.symm.trans hg')
 have hty : (Tryd.prog.globals[2]?).map (·.type) = some 145 := by kernel_rfl
 obtain rfl := Option.some.inj (hty.symm.trans ht')
 obtain ⟨hl, _, hrow⟩ := cells_of_tab2 (zss := table) (n := 4) (m := 2) (k := .i64) Tryd.underlying145 Tryd.underlying144 Tryd.underlying2 (by kernel_rfl) (by kernel_rfl) (by kernel_rfl) hd
 intro i hi
 have hr := hrow i hi
 rw [table_at i hi] at hr
 have c0 : cs[i * 2]? = some (.int .i64 (cosines.getD i 0)) := by
  have := congrArg (·[0]?) hr
  simpa [List.getElem?_take, List.getElem?_drop] using this
 have c1 : cs[i * 2 + 1]? = some (.int .i64 (sines.getD i 0)) := by
  have := congrArg (·[1]?) hr
  simpa [List.getElem?_take, List.getElem?_drop] using this
 refine ⟨?_, ?_⟩
 ·have := World.var?_cell gAngles hvar (i * 2)
  simpa [c0] using this
 ·have := World.var?_cell gAngles hvar (i * 2 + 1)
  simpa [c1] using this
def row (a : Int) : Nat := if a ≤ 0 then 0 else if a = 1 then 1 else if a = 2 then 2 else 3
def co (a : Int) : Int := cosines.getD (row a) 0
def si (a : Int) : Int := sines.getD (row a) 0
theorem row_lt (a : Int) : row a < 4 := by unfold row; repeat' split
                                           all_goals omega
set_option maxHeartbeats 1000000 in
set_option maxRecDepth 100000 in
theorem angle_at (a : Int) (i : Nat) (c s : Int) (h : a < 0 ∧ i = 0 ∨ a = 0 ∧ i = 0 ∨ a = 1 ∧ i = 1 ∨ a = 2 ∧ i = 2 ∨ a = 3 ∧ i = 3 ∨ 3 < a ∧ i = 3) (w : World) (h0 : w.cell? ⟨2, i * 2, none⟩ = some (.int .i64 c)) (h1 : w.cell? ⟨2, i * 2 + 1, none⟩ = some (.int .i64 s)) :
 Calls Tryd.prog 90 #[.int .i64 a] w fun e w' => e = .returned (.tuple #[.int .i64 c, .int .i64 s]) ∧ Below w.heap.size w w' := by
 have hu41 := Tryd.underlying144
 have HB := Aside0.mk (Below.refl w.heap.size w)
 rcases h with ⟨ha, rfl⟩ | ⟨rfl, rfl⟩ | ⟨rfl, rfl⟩ | ⟨rfl, rfl⟩ | ⟨rfl, rfl⟩ | ⟨ha, rfl⟩
 all_goals
  simp only [Nat.zero_mul, Nat.one_mul, Nat.zero_add, Nat.reduceMul, Nat.reduceAdd] at h0 h1
  go_enter Tryd.func90, Tryd.ntmps90
  go_wp2
  go_quiet (fail)
  go_wp2
  go_ret2
  exact ⟨rfl, pw_below_drewN (below_alloc HB.out _) _⟩
theorem angle_any (a : Int) (w : World) (hL : Laid w) : Calls Tryd.prog 90 #[.int .i64 a] w fun e w' => e = .returned (.tuple #[.int .i64 (co a), .int .i64 (si a)]) ∧ Below w.heap.size w w' := by
 refine angle_at a (row a) _ _ ?_ w (hL _ (row_lt a)).1 (hL _ (row_lt a)).2
 unfold row
 repeat' split
 all_goals omega
end Go.Proofs.YtjpnbdofbkoddaaDoor.Spread
namespace Go.Proofs.YtjpnbdofbkoddaaDoor.Spread
open Go.RowKit Go.Proofs.YtjpnbdofbkoddaaDoorW.PrintWords Go.Proofs.YtjpnbdofbkoddaaDoorW.PrintLast Go.Proofs.YtjpnbdofbkoddaaDoorW.PrintMore
def rnd (x : Int) : Int := (OShapeSeeds.fix_Round.f x 15).getD 0
theorem rnd_is (x : Int) : OShapeSeeds.fix_Round.f x 15 = some (rnd x) := by
 unfold rnd OShapeSeeds.fix_Round.f
 rw [if_neg (by decide), if_pos (by decide), if_pos (by decide +kernel)]
 rfl
def s32 (x : Int) : Int := mn (mx x (-2147483648)) 2147483647
def ta (c s a b : Int) : Int := s32 (rnd (wrap64 ((wrap64 (c * (wrap64 a))) - (wrap64 (s * (wrap64 b))))))
def tb (c s a b : Int) : Int := s32 (rnd (wrap64 ((wrap64 (s * (wrap64 a))) + (wrap64 (c * (wrap64 b))))))
def tn (c s : Int) (i : Nat) (xs : List Int) : List Int := (xs.set i (ta c s (rd xs i) (rd xs ((i : Int) + 1)))).set (i + 1) (tb c s (rd xs i) (rd xs ((i : Int) + 1)))
theorem tn_len (c s : Int) (i : Nat) (xs : List Int) : (tn c s i xs).length = xs.length := by simp [tn]
theorem turn_is (c s : Int) (i : Nat) (xs : List Int) (hi : i + 1 < xs.length) (hl : xs.length ≤ 1000) : OShapeSeeds.spread_turn.f xs i c s = some (tn c s i xs) := by
 have e1 : wrap64 ((i : Int) + 1) = (i : Int) + 1 := by rw [← i64_w]; exact IntWalk.i64_in _ (by omega)
 unfold OShapeSeeds.spread_turn.f
 rw [e1, if_pos (by omega), if_pos (by omega), if_pos (by omega), if_pos (by omega), rnd_is, Option.bind_some, OShapeSeeds.fix_Sat32.f, Option.bind_some, rnd_is, Option.bind_some, OShapeSeeds.fix_Sat32.f, Option.bind_some]
 have e2 : ((i : Int) + 1).toNat = i + 1 := by omega
 rw [e2, Int.toNat_natCast]
 rfl
abbrev Own (w0 w : World) (u : Value) (xs : List Int) : Prop := Kd.R (Kd.int .i32) 21 w w0.heap.size (fun k => some k = u.ownBlock) u xs
theorem turn_any (c s : Int) (i : Nat) (xs : List Int) (u : Value) (w0 w : World) (hi : i + 1 < xs.length) (hl : xs.length ≤ 1000) (hB : Below w0.heap.size w0 w) (hR : Own w0 w u xs) :
 Calls Tryd.prog 91 #[u, .int .i64 i, .int .i64 c, .int .i64 s] w fun e w' => e = .returned (.tuple #[]) ∧ Own w0 w' u (tn c s i xs) ∧ Below w0.heap.size w0 w' ∧ Kept w w' (fun k => some k = u.ownBlock) :=
 (OShapeSeeds.spread_turn.calls (fun k => some k = u.ownBlock) u xs i c s _ w0 w hB hR (turn_is c s i xs hi hl)).mono fun e w' h => ⟨h.1, Kd.R_reok rfl h.2.1 (fun k hk => hk.symm), h.2.2.1, h.2.2.2⟩
def upw (c s : Int) : Nat → Nat → List Int → List Int
 | 0, _, xs => xs
 | d + 1, i, xs => upw c s d (i + 1) (tn c s i xs)
def dnw (c s : Int) : Nat → List Int → List Int
 | 0, xs => xs
 | m + 1, xs => dnw c s m (tn c s m xs)
theorem upw_len (c s : Int) : ∀ (d i : Nat) (xs : List Int), (upw c s d i xs).length = xs.length
 | 0, _, _ => rfl
 | d + 1, i, xs => by rw [upw, upw_len, tn_len]
theorem dnw_len (c s : Int) : ∀ (m : Nat) (xs : List Int), (dnw c s m xs).length = xs.length
 | 0, _ => rfl
 | m + 1, xs => by rw [dnw, dnw_len, tn_len]
def sp (a : Int) (xs : List Int) : List Int := if si a = 0 then xs else dnw (co a) (si a) (xs.length - 2) (upw (co a) (si a) (xs.length - 1) 0 xs)
theorem sp_len (a : Int) (xs : List Int) : (sp a xs).length = xs.length := by
 unfold sp; split
 ·rfl
 ·rw [dnw_len, upw_len]
set_option maxHeartbeats 2000000 in
set_option maxRecDepth 100000 in
theorem in_no (a : Int) (xs : List Int) (u : Value) (w0 w : World) (hB : Below w0.heap.size w0 w) (hR : Own w0 w u xs) (hL : Laid w0) (h0 : si a = 0) :
 Calls Tryd.prog 68 #[u, .int .i64 a] w fun e w' => e = .returned (.tuple #[]) ∧ Own w0 w' u xs ∧ Below w0.heap.size w0 w' ∧ Kept w w' (fun k => some k = u.ownBlock) := by
 have HA := Aside0.mk (fun w hL => h0 ▸ angle_any a w hL : ∀ w, Laid w → Calls Tryd.prog 90 #[.int .i64 a] w fun e w' => e = .returned (.tuple #[.int .i64 (co a), .int .i64 0]) ∧ Below w.heap.size w w')
 have HR := Aside0.mk hR
 have HB := Aside0.mk hB
 have HL := Aside0.mk hL
 clear hR hB hL h0
 go_enter Tryd.func68, Tryd.ntmps68
 go_wp2_with (first | (go_at_call 90; (with_reducible refine (HA.out _ (HL.out.below HB.out)).mono ?_); rintro e w1 ⟨rfl, hb⟩))
 first | go_end0 | ((try simp only [Exit.inBlock, Exit.then]); refine bodyPost_ret (results_none rfl _ _ _) rfl ?_)
 exact ⟨rfl, Kd.R_below HR.out hb, below_step HB.out hb, Kept.of_below hb _⟩
set_option maxHeartbeats 2000000 in
set_option maxRecDepth 100000 in
theorem in_yes (c s : Int) (a : Int) (xs : List Int) (A : Option Addr) (cap : Nat) (w0 w : World) (hl : xs.length ≤ 1000) (hB : Below w0.heap.size w0 w) (hR : Own w0 w (.slice A xs.length cap) xs) (hL : Laid w0) (h0 : s ≠ 0)
 (ha : ∀ w, Laid w → Calls Tryd.prog 90 #[.int .i64 a] w fun e w' => e = .returned (.tuple #[.int .i64 c, .int .i64 s]) ∧ Below w.heap.size w w') :
 Calls Tryd.prog 68 #[.slice A xs.length cap, .int .i64 a] w fun e w' => e = .returned (.tuple #[]) ∧ Own w0 w' (.slice A xs.length cap) (dnw c s (xs.length - 2) (upw c s (xs.length - 1) 0 xs)) ∧ Below w0.heap.size w0 w' ∧ Kept w w' (fun k => some k = (Value.slice A xs.length cap).ownBlock) := by
 have HA := Aside0.mk ha
 have HR := Aside0.mk hR
 have HB := Aside0.mk hB
 have HL := Aside0.mk hL
 clear hR hB hL ha
 obtain ⟨n, hn⟩ : ∃ n, xs.length = n := ⟨_, rfl⟩
 have HN := Aside0.mk hn
 rw [hn] at hl HR ⊢
 clear hn
 have hb0 : (s == 0) = false := beq_eq_false_iff_ne.mpr h0
 go_enter Tryd.func68, Tryd.ntmps68
 go_wp2_with (first | (go_at_call 90; (with_reducible refine (HA.out _ (HL.out.below HB.out)).mono ?_); rintro e w1 ⟨rfl, hb⟩; have HK := Aside0.mk (Kept.of_below hb (fun k => some k = (Value.slice A n cap).ownBlock)); have m0 := Aside0.mk (Kd.R_below HR.out hb); have m1 := Aside0.mk (below_step HB.out hb); clear HR HB hb; have HR := m0; have HB := m1; clear m0 m1))
 go_loopw [6] (fun i wr => ∃ (m : Nat) (cur : List Int), m ≤ n ∧ i = .int .i64 m ∧ Aside0 (cur.length = n) ∧ Aside0 (upw c s (n - 1 - m) m cur = upw c s (n - 1) 0 xs) ∧ Aside0 (Own w0 wr (.slice A n cap) cur) ∧ Aside0 (Below w0.heap.size w0 wr) ∧ Aside0 (Kept w wr (fun k => some k = (Value.slice A n cap).ownBlock))) (fun i _ => (n - intOf i).toNat)
 case atStart => exact ⟨0, xs, by omega, rfl, HN, ⟨rfl⟩, HR, HB, HK⟩
 case round =>
  obtain ⟨m, cur, hm, rfl, HC, HU, HR2, HB2, HK2⟩ := hrel
  clear HR HB HK
  have HR := HR2
  have HB := HB2
  have HK := HK2
  clear HR2 HB2 HK2
  by_cases ht : (m : Int) + 1 < n
  ·have HT : Aside0 (∀ w, Below w0.heap.size w0 w → Own w0 w (.slice A n cap) cur → Calls Tryd.prog 91 #[.slice A n cap, .int .i64 m, .int .i64 c, .int .i64 s] w fun e w' => e = .returned (.tuple #[]) ∧ Own w0 w' (.slice A n cap) (tn c s m cur) ∧ Below w0.heap.size w0 w' ∧ Kept w w' (fun k => some k = (Value.slice A n cap).ownBlock)) :=
    ⟨fun w hB hR => turn_any c s m cur _ w0 w (by have := HC.out; omega) (by have := HC.out; omega) hB hR⟩
   go_wp2_with (first | (go_at_call 91; (with_reducible refine (HT.out _ HB.out HR.out).mono ?_); rintro e w2 ⟨rfl, hR, hB, hK⟩; have m0 := Aside0.mk hR; have m1 := Aside0.mk hB; have m2 := Aside0.mk (HK.out.then_ hK (fun _ h => .inl h)); clear HR HB HK hR hB hK; have HR := m0; have HB := m1; have HK := m2; clear m0 m1 m2))
   go_roundw
   case rel => exact ⟨m + 1, tn c s m cur, by omega, by simp, ⟨(tn_len c s m cur).trans HC.out⟩, ⟨by have h := HU.out; rw [show n - 1 - m = (n - 1 - (m + 1)) + 1 by omega] at h; exact h⟩, HR, HB, HK⟩
   case measure => simp [intOf]; omega
  ·have HD : Aside0 (cur = upw c s (n - 1) 0 xs) := ⟨by have h := HU.out; rw [show n - 1 - m = 0 by omega] at h; exact h⟩
   clear HU
   go_wp2
   go_loopw [7] (fun i wr => ∃ (j : Int) (cu : List Int), -3 ≤ j ∧ j + 3 ≤ n ∧ i = .int .i64 j ∧ Aside0 (cu.length = n) ∧ Aside0 (dnw c s (j + 1).toNat cu = dnw c s (n - 2) cur) ∧ Aside0 (Own w0 wr (.slice A n cap) cu) ∧ Aside0 (Below w0.heap.size w0 wr) ∧ Aside0 (Kept w wr (fun k => some k = (Value.slice A n cap).ownBlock))) (fun i _ => (intOf i + 4).toNat)
   case atStart => exact ⟨(n : Int) - 3, cur, by omega, by omega, by simp, HC, ⟨by rw [show ((n : Int) - 3 + 1).toNat = n - 2 by omega]⟩, HR, HB, HK⟩
   case round =>
    obtain ⟨j, cu, hj0, hj1, rfl, HC2, HU, HR2, HB2, HK2⟩ := hrel
    clear HR HB HK HC
    have HR := HR2
    have HB := HB2
    have HK := HK2
    clear HR2 HB2 HK2
    by_cases hj : 0 ≤ j
    ·obtain ⟨q, rfl⟩ := Int.eq_ofNat_of_zero_le hj
     have HT : Aside0 (∀ w, Below w0.heap.size w0 w → Own w0 w (.slice A n cap) cu → Calls Tryd.prog 91 #[.slice A n cap, .int .i64 q, .int .i64 c, .int .i64 s] w fun e w' => e = .returned (.tuple #[]) ∧ Own w0 w' (.slice A n cap) (tn c s q cu) ∧ Below w0.heap.size w0 w' ∧ Kept w w' (fun k => some k = (Value.slice A n cap).ownBlock)) :=
      ⟨fun w hB hR => turn_any c s q cu _ w0 w (by have := HC2.out; omega) (by have := HC2.out; omega) hB hR⟩
     go_wp2_with (first | (go_at_call 91; (with_reducible refine (HT.out _ HB.out HR.out).mono ?_); rintro e w2 ⟨rfl, hR, hB, hK⟩; have m0 := Aside0.mk hR; have m1 := Aside0.mk hB; have m2 := Aside0.mk (HK.out.then_ hK (fun _ h => .inl h)); clear HR HB HK hR hB hK; have HR := m0; have HB := m1; have HK := m2; clear m0 m1 m2))
     go_roundw
     case rel => exact ⟨(q : Int) - 1, tn c s q cu, by omega, by omega, by simp, ⟨(tn_len c s q cu).trans HC2.out⟩, ⟨by have h := HU.out; rw [show ((q : Int) + 1).toNat = q + 1 by omega] at h; rw [show ((q : Int) - 1 + 1).toNat = q by omega]; exact h⟩, HR, HB, HK⟩
     case measure => simp [intOf]; omega
    ·have HE : Aside0 (cu = dnw c s (n - 2) (upw c s (n - 1) 0 xs)) := ⟨by have h := HU.out; rw [show (j + 1).toNat = 0 by omega] at h; rw [← HD.out]; exact h⟩
     clear HU
     go_wp2
     first | go_end0 | ((try simp only [Exit.inBlock, Exit.then]); refine bodyPost_ret (results_none rfl _ _ _) rfl ?_)
     rw [← HE.out]
     exact ⟨rfl, HR.out, HB.out, HK.out⟩
theorem in_any (a : Int) (xs : List Int) (u : Value) (w0 w : World) (hl : xs.length ≤ 1000) (hB : Below w0.heap.size w0 w) (hR : Own w0 w u xs) (hL : Laid w0) :
 Calls Tryd.prog 68 #[u, .int .i64 a] w fun e w' => e = .returned (.tuple #[]) ∧ Own w0 w' u (sp a xs) ∧ Below w0.heap.size w0 w' ∧ Kept w w' (fun k => some k = u.ownBlock) := by
 unfold sp
 by_cases h0 : si a = 0
 ·rw [if_pos h0]; exact in_no a xs u w0 w hB hR hL h0
 ·rw [if_neg h0]
  obtain ⟨A, cap, rfl⟩ := Kd.R_slice hR
  exact in_yes (co a) (si a) a xs A cap w0 w hl hB hR hL h0 (angle_any a)
theorem info21 : (Tryd.prog.info? 21).map (fun i => (i.zero, i.size, i.bytes)) = some (some (.int .i32 0), 1, 4) := by kernel_rfl
set_option maxHeartbeats 2000000 in
set_option maxRecDepth 100000 in
theorem clone_some (xs : List Int) (ad : Addr) (c : Nat) (w : World) (hC : Kd.C (Kd.int .i32) w (some ad) xs.length xs) (hc : xs.length ≤ c) (hl : xs.length ≤ 1000) :
 Calls Tryd.prog 85 #[.slice (some ad) xs.length c] w fun e w' => ∃ v : Value, e = .returned v ∧ Kd.R (Kd.int .i32) 21 w' w.heap.size (fun _ => True) v xs ∧ Below w.heap.size w w' := by
 have HB := Aside0.mk (Below.refl w.heap.size w)
 have HC := Aside0.mk hC
 clear hC
 have q22 : ∀ (w : World) (a : Option Addr) (n c n' c' : Nat), (binOp .eql 22 (.slice a n c) (.slice none n' c')).run Tryd.prog w = .ok (.bool a.isNone) w := fun w a n c n' c' => Lib.run_eql_slice_nil w _ _ a n c n' c' Tryd.underlying22
 go_enter Tryd.func85, Tryd.ntmps85
 have HO : Aside0 (Kd.R (Kd.int .i32) 21 (w.alloc (Obj.cells #[] 21)) w.heap.size (fun _ => True) (.slice (some ⟨w.heap.size, 0, none⟩) 0 0) []) := ⟨Kd.R_of_own (own_lit w w.heap.size 21 .i32 [] (Nat.le_refl _) (by decide)) (fun _ _ => trivial)⟩
 go_wp2_with (first | ((with_reducible refine gate_builtin (b := .append) (xs := #[.tmp 5, .tmp 6]) rfl ?_); at_builtin; refine Kd.R_append_row (Value.int .i32) (0 : Int) (h1 := fun _ => rfl) (w0 := w) w.heap.size rfl (.tmp 5) (.tmp 6) 22 21 (.int .i32 0) 4 rfl Tryd.underlying22 info21 rfl (by decide) (.slice (some ⟨w.heap.size, 0, none⟩) 0 0) [] xs (some ad) xs.length c (fun _ => True) rfl rfl (fun _ _ => trivial) HO.out (Kd.C_below HC.out (below_alloc (Below.refl _ _) _)) (below_alloc HB.out _) (by simp) (by simp; omega) ?_; intro v1 w1 hR hb hg hat))
 go_ret
 exact ⟨v1, rfl, hR, hb⟩
set_option maxHeartbeats 2000000 in
set_option maxRecDepth 100000 in
theorem clone_none (c : Nat) (w : World) :
 Calls Tryd.prog 85 #[.slice none 0 c] w fun e w' => ∃ v : Value, e = .returned v ∧ Kd.R (Kd.int .i32) 21 w' w.heap.size (fun _ => True) v [] ∧ Below w.heap.size w w' := by
 have HB := Aside0.mk (Below.refl w.heap.size w)
 have q22 : ∀ (w : World) (a : Option Addr) (n c n' c' : Nat), (binOp .eql 22 (.slice a n c) (.slice none n' c')).run Tryd.prog w = .ok (.bool a.isNone) w := fun w a n c n' c' => Lib.run_eql_slice_nil w _ _ a n c n' c' Tryd.underlying22
 go_enter Tryd.func85, Tryd.ntmps85
 go_wp2
 go_ret
 exact ⟨_, rfl, Kd.R_nil _ _ _ _ _, HB.out⟩
theorem clone_any (xs : List Int) (A : Option Addr) (c : Nat) (w : World) (hC : Kd.C (Kd.int .i32) w A xs.length xs) (hc : xs.length ≤ c) (hl : xs.length ≤ 1000) :
 Calls Tryd.prog 85 #[.slice A xs.length c] w fun e w' => ∃ v : Value, e = .returned v ∧ Kd.R (Kd.int .i32) 21 w' w.heap.size (fun _ => True) v xs ∧ Below w.heap.size w w' := by
 cases A with
 | some ad => exact clone_some xs ad c w hC hc hl
 | none =>
  have : xs = [] := by
   cases xs with
   | nil => rfl
   | cons x l =>
    obtain ⟨ad, h, _⟩ := hC.2.2 (by simp)
    cases h
  subst this
  exact clone_none c w
set_option maxHeartbeats 2000000 in
set_option maxRecDepth 100000 in
theorem copy_any (a : Int) (xs : List Int) (A : Option Addr) (c : Nat) (w : World) (hC : Kd.C (Kd.int .i32) w A xs.length xs) (hc : xs.length ≤ c) (hl : xs.length ≤ 1000) (hL : Laid w) :
 Calls Tryd.prog 60 #[.slice A xs.length c, .int .i64 a] w fun e w' => ∃ v : Value, e = .returned v ∧ Kd.R (Kd.int .i32) 21 w' w.heap.size (fun _ => True) v (sp a xs) ∧ Below w.heap.size w w' := by
 have HC := Aside0.mk hC
 have HL := Aside0.mk hL
 clear hC hL
 go_enter Tryd.func60, Tryd.ntmps60
 go_wp2_with (first | (go_at_call 85; (with_reducible refine (clone_any xs A c _ HC.out hc hl).mono ?_); rintro e w1 ⟨v, rfl, hR, hb⟩; have HR := Aside0.mk (Kd.R_reok (ok := fun k => some k = v.ownBlock) rfl hR (fun k hk => hk.symm)); have HB := Aside0.mk hb; clear hR hb) | (go_at_call 68; (with_reducible refine (in_any a xs v w w1 hl HB.out HR.out HL.out).mono ?_); rintro e w2 ⟨rfl, hR2, hB2, hK⟩; have HR2 := Aside0.mk hR2; have HB2 := Aside0.mk hB2; clear hR2 hB2 hK))
 go_ret
 exact ⟨_, rfl, Kd.R_mono HR2.out (fun _ _ => trivial), HB2.out⟩
end Go.Proofs.YtjpnbdofbkoddaaDoor.Spread
namespace Go.Proofs.YtjpnbdofbkoddaaDoor.Mode
open Go.RowKit Go.Proofs.YtjpnbdofbkoddaaDoorW.PrintWords Go.Proofs.YtjpnbdofbkoddaaDoorW.PrintLast Go.Proofs.YtjpnbdofbkoddaaDoorW.PrintMore
def widths : List Int := [2, 2, 4, 8, 16]
def Laid (w : World) : Prop := ∀ i : Nat, i < 5 → w.cell? ⟨0, i, none⟩ = some (.int .i64 (widths.getD i 0))
theorem Laid.below {w w' : World} (h : Laid w) (hb : Below w.heap.size w w') : Laid w' := fun i hi => pw_cell_below hb (h i hi)
theorem gWidths : Tryd.prog.globalNamed "spinet/mode.widths" = some 0 := by kernel_rfl
theorem of_laid {W : World} (h : laidMetH Tryd.prog [("spinet/mode.widths", Rows.laid_spinet_mode_widths)] W) : Laid W := by
 rw [MakeChecks.laidMetH_plain _ _ _ (by kernel_rfl)] at h
 have hT := Lib.tabIs_of_head (k := .i64) (zs := widths) (rest := []) gWidths (t := 54) (e := 3) (n := 5) (by kernel_rfl) Tryd.underlying54 Tryd.underlying3 (by kernel_rfl) (by kernel_rfl) h
 exact fun i hi => hT.cell gWidths i hi
theorem has_any (s c b : Int) (r : Bool) (h : OShapeSeeds.mode_Mode_has.f s c b = some r) (w : World) :
 Calls Tryd.prog 64 #[.agg #[.int .i64 s, .int .i64 c], .int .i64 b] w fun e w' => e = .returned (.bool r) ∧ Below w.heap.size w w' := OShapeSeeds.mode_Mode_has.calls s c b r w h
set_option maxHeartbeats 1000000 in
set_option maxRecDepth 100000 in
theorem width_in (s c : Int) (b : Nat) (x : Int) (hb5 : b < 5) (h : OShapeSeeds.mode_Mode_has.f s c b = some true) (w : World) (hT : w.cell? ⟨0, b, none⟩ = some (.int .i64 x)) :
 Calls Tryd.prog 23 #[.agg #[.int .i64 s, .int .i64 c], .int .i64 b] w fun e w' => e = .returned (.int .i64 x) ∧ Below w.heap.size w w' := by
 have hu24 := Tryd.underlying53
 have HB := Aside0.mk (Below.refl w.heap.size w)
 have H := Aside0.mk h
 clear h
 go_enter Tryd.func23, Tryd.ntmps23
 go_wp2_with (first | ((with_reducible refine gate_dst (N := 2) rfl ?_); refine box_event ?hg (N := 2) ?hd (cs := #[.int .i64 s, .int .i64 c]) (t := 53) ?hr ?_; (case hd => rfl); (case hg => rfl); (case hr => first | (go_simp; done) | (go_simp; rfl)); intro gb hg wb hbox hb; have n0_ := Aside0.mk (below_step HB.out hb); have n2_ := Aside0.mk ((by rw [hg]; exact below_size HB.out) : w.heap.size ≤ gb); clear HB; have HB := n0_; have GW := n2_; clear n0_ n2_; have BK := Aside0.mk hbox; have hc0 : wb.cell? ⟨gb, 0, none⟩ = some (.int .i64 s) := (blk_cell BK.out 0).trans rfl; have hf0 := blk_frozen BK.out 0; have hc1 : wb.cell? ⟨gb, 1, none⟩ = some (.int .i64 c) := (blk_cell BK.out 1).trans rfl; have hf1 := blk_frozen BK.out 1; have m0 := pw_cell_below hb hT; clear hT; have hT := m0; clear m0; clear hb hbox hg) | (go_at_call 64; (with_reducible refine (has_any _ _ _ _ H.out _).mono ?_); rintro e w1 ⟨rfl, hb⟩; have n0 := Aside0.mk (below_step HB.out hb); clear HB; have HB := n0; clear n0; have n1 := Aside0.mk (blk_below BK.out hb); clear BK; have BK := n1; clear n1; clear hc0 hf0; clear hc1 hf1; have hc0 : w1.cell? ⟨gb, 0, none⟩ = some (.int .i64 s) := (blk_cell BK.out 0).trans rfl; have hf0 := blk_frozen BK.out 0; have hc1 : w1.cell? ⟨gb, 1, none⟩ = some (.int .i64 c) := (blk_cell BK.out 1).trans rfl; have hf1 := blk_frozen BK.out 1; have m0 := pw_cell_below hb hT; clear hT; have hT := m0; clear m0; clear hb))
 go_ret
 exact ⟨rfl, HB.out⟩
def fr : Nat → Int
 | 0 => 0
 | n + 1 => fr n + widths.getD n 0
set_option maxHeartbeats 1000000 in
set_option maxRecDepth 100000 in
theorem from_in (s c : Int) (b : Nat) (hb5 : b < 6) (h : OShapeSeeds.mode_Mode_has.f s c b = some true) (w : World) (hL : Laid w) :
 Calls Tryd.prog 25 #[.agg #[.int .i64 s, .int .i64 c], .int .i64 b] w fun e w' => e = .returned (.int .i64 (fr b)) ∧ Below w.heap.size w w' := by
 have hu24 := Tryd.underlying53
 have HB := Aside0.mk (Below.refl w.heap.size w)
 have H := Aside0.mk h
 have HL := Aside0.mk hL
 clear h hL
 go_enter Tryd.func25, Tryd.ntmps25
 go_wp2_with (first | ((with_reducible refine gate_dst (N := 2) rfl ?_); refine box_event ?hg (N := 2) ?hd (cs := #[.int .i64 s, .int .i64 c]) (t := 53) ?hr ?_; (case hd => rfl); (case hg => rfl); (case hr => first | (go_simp; done) | (go_simp; rfl)); intro gb hg wb hbox hb; have n0_ := Aside0.mk (below_step HB.out hb); have n2_ := Aside0.mk ((by rw [hg]; exact below_size HB.out) : w.heap.size ≤ gb); clear HB; have HB := n0_; have GW := n2_; clear n0_ n2_; have BK := Aside0.mk hbox; have hc0 : wb.cell? ⟨gb, 0, none⟩ = some (.int .i64 s) := (blk_cell BK.out 0).trans rfl; have hf0 := blk_frozen BK.out 0; have hc1 : wb.cell? ⟨gb, 1, none⟩ = some (.int .i64 c) := (blk_cell BK.out 1).trans rfl; have hf1 := blk_frozen BK.out 1; have m0 := Aside0.mk (HL.out.below hb); clear HL; have HL := m0; clear m0; clear hb hbox hg) | (go_at_call 64; (with_reducible refine (has_any _ _ _ _ H.out _).mono ?_); rintro e w1 ⟨rfl, hb⟩; have n0 := Aside0.mk (below_step HB.out hb); clear HB; have HB := n0; clear n0; have n1 := Aside0.mk (blk_below BK.out hb); clear BK; have BK := n1; clear n1; clear hc0 hf0; clear hc1 hf1; have hc0 : w1.cell? ⟨gb, 0, none⟩ = some (.int .i64 s) := (blk_cell BK.out 0).trans rfl; have hf0 := blk_frozen BK.out 0; have hc1 : w1.cell? ⟨gb, 1, none⟩ = some (.int .i64 c) := (blk_cell BK.out 1).trans rfl; have hf1 := blk_frozen BK.out 1; have m0 := Aside0.mk (HL.out.below hb); clear HL; have HL := m0; clear m0; clear hb))
 go_loopw [5, 12] (fun f i wr => ∃ n : Nat, n ≤ b ∧ f = .int .i64 (fr n) ∧ i = .int .i64 n ∧ Aside0 (Laid wr) ∧ Aside0 (Below w.heap.size w wr)) (fun _ i _ => (b - intOf i).toNat)
 case atStart => exact ⟨0, by omega, rfl, rfl, HL, HB⟩
 case round =>
  obtain ⟨n, hn, rfl, rfl, HL2, HB2⟩ := hrel
  clear HL HB
  by_cases ht : n < b
  ·have hw := HL2.out n (by omega)
   have fs : wrap64 (fr n + widths.getD n 0) = fr (n + 1) := by
    have : ∀ m : Nat, m < 5 → wrap64 (fr m + widths.getD m 0) = fr (m + 1) := by decide +kernel
    exact this n (by omega)
   generalize widths.getD n 0 = x at *
   go_wp2
   go_roundw
   case rel => exact ⟨n + 1, by omega, by rw [fs], by simp, HL2, HB2⟩
   case measure => simp [intOf]; omega
  ·have e : n = b := by omega
   subst e
   go_wp2
   go_ret
   exact ⟨rfl, HB2.out⟩
end Go.Proofs.YtjpnbdofbkoddaaDoor.Mode
namespace Go.Proofs.YtjpnbdofbkoddaaDoor.Sh
open Go.RowKit Go.Proofs.YtjpnbdofbkoddaaDoorW.PrintWords Go.Proofs.YtjpnbdofbkoddaaDoorW.PrintLast Go.Proofs.YtjpnbdofbkoddaaDoorW.PrintMore
open Go.Proofs.YtjpnbdofbkoddaaDoor.OShapeSeeds Go.Proofs.YtjpnbdofbkoddaaDoor.Sy Go.Proofs.YtjpnbdofbkoddaaDoor.SyWalk Go.Proofs.YtjpnbdofbkoddaaDoor.WrWalk
open Go.Proofs.YtjpnbdofbkoddaaDoor.ShapePlain (sc sc_len sc_in)
open Go.Proofs.YtjpnbdofbkoddaaDoor.NoisePlain (fo fo_len fo_in hd)
open Go.Proofs.YtjpnbdofbkoddaaDoor.Spread (sp sp_len)
abbrev I32 (x : Int) : Prop := NoisePlain.I32 x
theorem mx_max (a b : Int) : mx a b = max a b := Math.mx_eq a b
theorem mn_min (a b : Int) : mn a b = min a b := Math.mn_eq a b
def lou (e q f : Int) : Int := (pow_Loud.f e q f).getD 0
theorem lou_is (e q f : Int) : pow_Loud.f e q f = some (lou e q f) ∧ 0 ≤ lou e q f ∧ lou e q f ≤ 320 := by
 have h : ∃ r, pow_Loud.f e q f = some r ∧ 0 ≤ r ∧ r ≤ 320 := by
  unfold pow_Loud.f pow_Fine.f pow_held.f
  simp only [Option.bind_some]
  rw [if_pos (by rw [mx_max, mn_min]; omega)]
  simp only [Option.bind_some]
  exact ⟨_, rfl, by rw [mx_max, mn_min]; omega, by rw [mx_max, mn_min]; omega⟩
 obtain ⟨r, hr, h2⟩ := h
 unfold lou
 rw [hr]
 exact ⟨rfl, h2⟩
theorem plou_call (e q f : Int) (w : World) : Calls Tryd.prog 86 #[.int .i64 e, .int .i64 q, .int .i64 f] w fun en w' => en = .returned (.int .i64 (lou e q f)) ∧ Below w.heap.size w w' := pow_Loud.calls e q f _ w (lou_is e q f).1
def lo (f : Fr) (q b : Nat) : Int := if ga f.L (23 + b) ≤ 0 then max (lou (ga f.L (3 + (q * 5 + b))) (ga f.L (13 + (q * 5 + b))) (ga f.L 2) - 16) 0 else lou (ga f.L (3 + (q * 5 + b))) (ga f.L (13 + (q * 5 + b))) (ga f.L 2)
theorem frc {w : World} {f : Fr} {g t : Nat} (hl : f.L.length = 92) (hg : w.heap[g]? = some (.cells f.cells.toArray t (0, 0))) {j k : Nat} (hj : j < 92) (hk : k = j + 2) : w.cell? ⟨g, k, none⟩ = some (.int .i64 (ga f.L j)) := by
 subst hk
 exact (blk_cell hg _).trans (f.cells_at j (by omega))
set_option maxHeartbeats 4000000 in
set_option maxRecDepth 100000 in
theorem loud_call (f : Fr) (hl : f.L.length = 92) (g : Nat) {q b : Nat} (hq : q ≤ 1) (hb : b ≤ 4) (w : World) (hg : w.heap[g]? = some (.cells f.cells.toArray 61 (0, 0))) :
 Calls Tryd.prog 62 #[.pointer (some ⟨g, 0, none⟩), .int .i64 q, .int .i64 b] w fun e w' => e = .returned (.int .i64 (lo f q b)) ∧ Below w.heap.size w w' := by
 have e1 := frc hl hg (j := 3 + (q * 5 + b)) (k := 5 + q * 5 + b) (by omega) (by omega)
 have e2 := frc hl hg (j := 13 + (q * 5 + b)) (k := 15 + q * 5 + b) (by omega) (by omega)
 have e3 := frc hl hg (j := 2) (k := 4) (by omega) (by omega)
 have e4 := frc hl hg (j := 23 + b) (k := 25 + b) (by omega) (by omega)
 unfold lo
 have hlo := (lou_is (ga f.L (3 + (q * 5 + b))) (ga f.L (13 + (q * 5 + b))) (ga f.L 2)).2
 have HC := Aside0.mk (plou_call (ga f.L (3 + (q * 5 + b))) (ga f.L (13 + (q * 5 + b))) (ga f.L 2))
 generalize ga f.L (3 + (q * 5 + b)) = E at *
 generalize ga f.L (13 + (q * 5 + b)) = Q at *
 generalize ga f.L 2 = F at *
 generalize ga f.L (23 + b) = Kb at *
 generalize lou E Q F = R at *
 have i1 : (0 : Int) ≤ (q : Int) := by omega
 have i2 : (q : Int) < 2 := by omega
 have i3 : (0 : Int) ≤ (b : Int) := by omega
 have i4 : (b : Int) < 5 := by omega
 have HB := Aside0.mk (Below.refl w.heap.size w)
 have wr : wrap64 (R - 16) = R - 16 := sw64 (by omega) (by omega)
 clear hlo hq hb hl hg
 by_cases hk : Kb ≤ 0
 ·rw [if_pos hk]
  have hd : decide (Kb ≤ 0) = true := decide_eq_true hk
  have HE4 := Aside0.mk e4
  clear hk
  go_enter Tryd.func62, Tryd.ntmps62
  go_wp2
  refine wp_region_held_drew (S := (fun w1 => w1.cell? ⟨g, 5 + q * 5 + b, none⟩ = some (.int .i64 E) ∧ w1.cell? ⟨g, 15 + q * 5 + b, none⟩ = some (.int .i64 Q) ∧ w1.cell? ⟨g, 4, none⟩ = some (.int .i64 F))) (by kernel_rfl) ?hS0 (fun hHeld => ?_)
  case hS0 => exact ⟨e1, e2, e3⟩
  refine zTH (v := ?_) 0 rfl hHeld ?h ?_
  case h => (intro w1 h1; obtain ⟨h1a, h1b, h1c⟩ := h1; go_simp; (try with_reducible rfl))
  (try simp only [Act.put, zA1, zA2, zA3])
  refine zTH (v := ?_) 1 rfl hHeld ?h ?_
  case h => (intro w1 h1; obtain ⟨h1a, h1b, h1c⟩ := h1; go_simp; (try with_reducible rfl))
  (try simp only [Act.put, zA1, zA2, zA3])
  refine zTH (v := ?_) 2 rfl hHeld ?h ?_
  case h => (intro w1 h1; obtain ⟨h1a, h1b, h1c⟩ := h1; go_simp; (try with_reducible rfl))
  (try simp only [Act.put, zA1, zA2, zA3])
  refine zTH (v := ?_) 3 rfl hHeld ?h ?_
  case h => (intro w1 h1; obtain ⟨h1a, h1b, h1c⟩ := h1; go_simp; (try with_reducible rfl))
  (try simp only [Act.put, zA1, zA2, zA3])
  refine zTH (v := ?_) 4 rfl hHeld ?h ?_
  case h => (intro w1 h1; obtain ⟨h1a, h1b, h1c⟩ := h1; go_simp; (try with_reducible rfl))
  (try simp only [Act.put, zA1, zA2, zA3])
  refine zTH (v := ?_) 5 rfl hHeld ?h ?_
  case h => (intro w1 h1; obtain ⟨h1a, h1b, h1c⟩ := h1; go_simp; (try with_reducible rfl))
  (try simp only [Act.put, zA1, zA2, zA3])
  refine zTH (v := ?_) 6 rfl hHeld ?h ?_
  case h => (intro w1 h1; obtain ⟨h1a, h1b, h1c⟩ := h1; go_simp; (try with_reducible rfl))
  (try simp only [Act.put, zA1, zA2, zA3])
  refine zTH (v := ?_) 7 rfl hHeld ?h ?_
  case h => (intro w1 h1; obtain ⟨h1a, h1b, h1c⟩ := h1; go_simp; (try with_reducible rfl))
  (try simp only [Act.put, zA1, zA2, zA3])
  refine zTH (v := ?_) 8 rfl hHeld ?h ?_
  case h => (intro w1 h1; obtain ⟨h1a, h1b, h1c⟩ := h1; go_simp; (try with_reducible rfl))
  (try simp only [Act.put, zA1, zA2, zA3])
  refine zTH (v := ?_) 9 rfl hHeld ?h ?_
  case h => (intro w1 h1; obtain ⟨h1a, h1b, h1c⟩ := h1; go_simp; (try with_reducible rfl))
  (try simp only [Act.put, zA1, zA2, zA3])
  refine zTH (v := ?_) 10 rfl hHeld ?h ?_
  case h => (intro w1 h1; obtain ⟨h1a, h1b, h1c⟩ := h1; go_simp; (try with_reducible rfl))
  (try simp only [Act.put, zA1, zA2, zA3])
  refine zTH (v := ?_) 11 rfl hHeld ?h ?_
  case h => (intro w1 h1; obtain ⟨h1a, h1b, h1c⟩ := h1; go_simp; (try with_reducible rfl))
  (try simp only [Act.put, zA1, zA2, zA3])
  refine zTH (v := ?_) 12 rfl hHeld ?h ?_
  case h => (intro w1 h1; obtain ⟨h1a, h1b, h1c⟩ := h1; go_simp; (try with_reducible rfl))
  (try simp only [Act.put, zA1, zA2, zA3])
  refine zTH (v := ?_) 13 rfl hHeld ?h ?_
  case h => (intro w1 h1; obtain ⟨h1a, h1b, h1c⟩ := h1; go_simp; (try with_reducible rfl))
  (try simp only [Act.put, zA1, zA2, zA3])
  refine zTH (v := ?_) 14 rfl hHeld ?h ?_
  case h => (intro w1 h1; obtain ⟨h1a, h1b, h1c⟩ := h1; go_simp; (try with_reducible rfl))
  (try simp only [Act.put, zA1, zA2, zA3])
  refine zTH (v := ?_) 15 rfl hHeld ?h ?_
  case h => (intro w1 h1; obtain ⟨h1a, h1b, h1c⟩ := h1; go_simp; (try with_reducible rfl))
  (try simp only [Act.put, zA1, zA2, zA3])
  refine zTH (v := ?_) 16 rfl hHeld ?h ?_
  case h => (intro w1 h1; obtain ⟨h1a, h1b, h1c⟩ := h1; go_simp; (try with_reducible rfl))
  (try simp only [Act.put, zA1, zA2, zA3])
  refine zTH (v := ?_) 17 rfl hHeld ?h ?_
  case h => (intro w1 h1; obtain ⟨h1a, h1b, h1c⟩ := h1; go_simp; (try with_reducible rfl))
  (try simp only [Act.put, zA1, zA2, zA3])
  refine zTH (v := ?_) 18 rfl hHeld ?h ?_
  case h => (intro w1 h1; obtain ⟨h1a, h1b, h1c⟩ := h1; go_simp; (try with_reducible rfl))
  (try simp only [Act.put, zA1, zA2, zA3])
  refine zTH (v := ?_) 19 rfl hHeld ?h ?_
  case h => (intro w1 h1; obtain ⟨h1a, h1b, h1c⟩ := h1; go_simp; (try with_reducible rfl))
  (try simp only [Act.put, zA1, zA2, zA3])
  refine zOH 20 rfl fun K hK => ?_
  refine goes_ (N := some 28) Tryd.func86 (by kernel_rfl) rfl #[.int .i64 E, .int .i64 Q, .int .i64 F] (by rfl) rfl rfl (by first | rfl | (simp only [List.map_toArray, List.map_cons, List.map_nil]; rfl)) ?_
  (with_reducible refine (HC.out _).mono ?_); rintro e w5 ⟨rfl, hb5⟩
  refine ⟨_, rfl, ?_⟩
  refine hK.out _ _ ?hSn21 (fun hHeld => ?_)
  case hSn21 => exact ⟨pw_cell_below hb5 hHeld.1, pw_cell_below hb5 hHeld.2.1, pw_cell_below hb5 hHeld.2.2⟩
  clear hK K
  (try simp only [Act.put, zA1, zA2, zA3])
  have e4b := pw_cell_below ((drew_self _).trans (hb5.mono (Nat.le_refl _))) HE4.out
  have HB2 := Aside0.mk (below_step (below_step HB.out (drew_self _)) hb5)
  clear HB hb5 e1 e2 e3 e4
  have HB := HB2
  clear HB2
  refine zTH (v := ?_) 21 rfl hHeld ?h ?_
  case h => (intro w1 h1; go_simp; (try with_reducible rfl))
  (try simp only [Act.put, zA1, zA2, zA3])
  refine wpAnyH_done (by kernel_rfl) ?_ _
  go_wp2
  go_ret
  exact ⟨congrArg (fun z => Ending.returned (Value.int .i64 z)) (by first | rfl | exact mx_max _ _ | simp), HB.out⟩
 ·rw [if_neg hk]
  have hd : decide (Kb ≤ 0) = false := decide_eq_false hk
  have HE4 := Aside0.mk e4
  clear hk
  go_enter Tryd.func62, Tryd.ntmps62
  go_wp2
  refine wp_region_held_drew (S := (fun w1 => w1.cell? ⟨g, 5 + q * 5 + b, none⟩ = some (.int .i64 E) ∧ w1.cell? ⟨g, 15 + q * 5 + b, none⟩ = some (.int .i64 Q) ∧ w1.cell? ⟨g, 4, none⟩ = some (.int .i64 F))) (by kernel_rfl) ?hS0 (fun hHeld => ?_)
  case hS0 => exact ⟨e1, e2, e3⟩
  refine zTH (v := ?_) 0 rfl hHeld ?h ?_
  case h => (intro w1 h1; obtain ⟨h1a, h1b, h1c⟩ := h1; go_simp; (try with_reducible rfl))
  (try simp only [Act.put, zA1, zA2, zA3])
  refine zTH (v := ?_) 1 rfl hHeld ?h ?_
  case h => (intro w1 h1; obtain ⟨h1a, h1b, h1c⟩ := h1; go_simp; (try with_reducible rfl))
  (try simp only [Act.put, zA1, zA2, zA3])
  refine zTH (v := ?_) 2 rfl hHeld ?h ?_
  case h => (intro w1 h1; obtain ⟨h1a, h1b, h1c⟩ := h1; go_simp; (try with_reducible rfl))
  (try simp only [Act.put, zA1, zA2, zA3])
  refine zTH (v := ?_) 3 rfl hHeld ?h ?_
  case h => (intro w1 h1; obtain ⟨h1a, h1b, h1c⟩ := h1; go_simp; (try with_reducible rfl))
  (try simp only [Act.put, zA1, zA2, zA3])
  refine zTH (v := ?_) 4 rfl hHeld ?h ?_
  case h => (intro w1 h1; obtain ⟨h1a, h1b, h1c⟩ := h1; go_simp; (try with_reducible rfl))
  (try simp only [Act.put, zA1, zA2, zA3])
  refine zTH (v := ?_) 5 rfl hHeld ?h ?_
  case h => (intro w1 h1; obtain ⟨h1a, h1b, h1c⟩ := h1; go_simp; (try with_reducible rfl))
  (try simp only [Act.put, zA1, zA2, zA3])
  refine zTH (v := ?_) 6 rfl hHeld ?h ?_
  case h => (intro w1 h1; obtain ⟨h1a, h1b, h1c⟩ := h1; go_simp; (try with_reducible rfl))
  (try simp only [Act.put, zA1, zA2, zA3])
  refine zTH (v := ?_) 7 rfl hHeld ?h ?_
  case h => (intro w1 h1; obtain ⟨h1a, h1b, h1c⟩ := h1; go_simp; (try with_reducible rfl))
  (try simp only [Act.put, zA1, zA2, zA3])
  refine zTH (v := ?_) 8 rfl hHeld ?h ?_
  case h => (intro w1 h1; obtain ⟨h1a, h1b, h1c⟩ := h1; go_simp; (try with_reducible rfl))
  (try simp only [Act.put, zA1, zA2, zA3])
  refine zTH (v := ?_) 9 rfl hHeld ?h ?_
  case h => (intro w1 h1; obtain ⟨h1a, h1b, h1c⟩ := h1; go_simp; (try with_reducible rfl))
  (try simp only [Act.put, zA1, zA2, zA3])
  refine zTH (v := ?_) 10 rfl hHeld ?h ?_
  case h => (intro w1 h1; obtain ⟨h1a, h1b, h1c⟩ := h1; go_simp; (try with_reducible rfl))
  (try simp only [Act.put, zA1, zA2, zA3])
  refine zTH (v := ?_) 11 rfl hHeld ?h ?_
  case h => (intro w1 h1; obtain ⟨h1a, h1b, h1c⟩ := h1; go_simp; (try with_reducible rfl))
  (try simp only [Act.put, zA1, zA2, zA3])
  refine zTH (v := ?_) 12 rfl hHeld ?h ?_
  case h => (intro w1 h1; obtain ⟨h1a, h1b, h1c⟩ := h1; go_simp; (try with_reducible rfl))
  (try simp only [Act.put, zA1, zA2, zA3])
  refine zTH (v := ?_) 13 rfl hHeld ?h ?_
  case h => (intro w1 h1; obtain ⟨h1a, h1b, h1c⟩ := h1; go_simp; (try with_reducible rfl))
  (try simp only [Act.put, zA1, zA2, zA3])
  refine zTH (v := ?_) 14 rfl hHeld ?h ?_
  case h => (intro w1 h1; obtain ⟨h1a, h1b, h1c⟩ := h1; go_simp; (try with_reducible rfl))
  (try simp only [Act.put, zA1, zA2, zA3])
  refine zTH (v := ?_) 15 rfl hHeld ?h ?_
  case h => (intro w1 h1; obtain ⟨h1a, h1b, h1c⟩ := h1; go_simp; (try with_reducible rfl))
  (try simp only [Act.put, zA1, zA2, zA3])
  refine zTH (v := ?_) 16 rfl hHeld ?h ?_
  case h => (intro w1 h1; obtain ⟨h1a, h1b, h1c⟩ := h1; go_simp; (try with_reducible rfl))
  (try simp only [Act.put, zA1, zA2, zA3])
  refine zTH (v := ?_) 17 rfl hHeld ?h ?_
  case h => (intro w1 h1; obtain ⟨h1a, h1b, h1c⟩ := h1; go_simp; (try with_reducible rfl))
  (try simp only [Act.put, zA1, zA2, zA3])
  refine zTH (v := ?_) 18 rfl hHeld ?h ?_
  case h => (intro w1 h1; obtain ⟨h1a, h1b, h1c⟩ := h1; go_simp; (try with_reducible rfl))
  (try simp only [Act.put, zA1, zA2, zA3])
  refine zTH (v := ?_) 19 rfl hHeld ?h ?_
  case h => (intro w1 h1; obtain ⟨h1a, h1b, h1c⟩ := h1; go_simp; (try with_reducible rfl))
  (try simp only [Act.put, zA1, zA2, zA3])
  refine zOH 20 rfl fun K hK => ?_
  refine goes_ (N := some 28) Tryd.func86 (by kernel_rfl) rfl #[.int .i64 E, .int .i64 Q, .int .i64 F] (by rfl) rfl rfl (by first | rfl | (simp only [List.map_toArray, List.map_cons, List.map_nil]; rfl)) ?_
  (with_reducible refine (HC.out _).mono ?_); rintro e w5 ⟨rfl, hb5⟩
  refine ⟨_, rfl, ?_⟩
  refine hK.out _ _ ?hSn43 (fun hHeld => ?_)
  case hSn43 => exact ⟨pw_cell_below hb5 hHeld.1, pw_cell_below hb5 hHeld.2.1, pw_cell_below hb5 hHeld.2.2⟩
  clear hK K
  (try simp only [Act.put, zA1, zA2, zA3])
  have e4b := pw_cell_below ((drew_self _).trans (hb5.mono (Nat.le_refl _))) HE4.out
  have HB2 := Aside0.mk (below_step (below_step HB.out (drew_self _)) hb5)
  clear HB hb5 e1 e2 e3 e4
  have HB := HB2
  clear HB2
  refine zTH (v := ?_) 21 rfl hHeld ?h ?_
  case h => (intro w1 h1; go_simp; (try with_reducible rfl))
  (try simp only [Act.put, zA1, zA2, zA3])
  refine wpAnyH_done (by kernel_rfl) ?_ _
  go_wp2
  go_ret
  exact ⟨rfl, HB.out⟩
theorem right_is {s c : Nat} (hs : s ≤ 2) (hc1 : 1 ≤ c) (hc2 : c ≤ 2) : mode_Mode_Right.f (s : Int) (c : Int) = some true := by
 unfold mode_Mode_Right.f
 rw [if_pos (by omega), if_pos (by omega), if_pos (by omega), decide_eq_true (by omega)]
theorem mb_is {s c : Nat} (hs : s ≤ 2) (hc1 : 1 ≤ c) (hc2 : c ≤ 2) : mode_Mode_Bands.f (s : Int) (c : Int) = some ((s : Int) + 3) := by
 unfold mode_Mode_Bands.f
 rw [right_is hs hc1 hc2, Option.bind_some, if_pos rfl, sw64 (by omega) (by omega), Int.add_comm]
theorem mbands_call {s c : Nat} (hs : s ≤ 2) (hc1 : 1 ≤ c) (hc2 : c ≤ 2) (w : World) : Calls Tryd.prog 22 #[.agg #[.int .i64 s, .int .i64 c]] w fun e w' => e = .returned (.int .i64 ((s : Int) + 3)) ∧ Below w.heap.size w w' := mode_Mode_Bands.calls _ _ _ w (mb_is hs hc1 hc2)
theorem has_is {s c b : Nat} (hs : s ≤ 2) (hc1 : 1 ≤ c) (hc2 : c ≤ 2) (hb : b < s + 3) : mode_Mode_has.f (s : Int) (c : Int) (b : Int) = some true := by
 unfold mode_Mode_has.f
 rw [if_pos (by omega), mb_is hs hc1 hc2, Option.bind_some, decide_eq_true (by omega)]
theorem wid_is : ∀ b : Nat, b ≤ 4 → Mode.widths.getD b 0 = (bw b : Int) := by
 intro b hb
 rcases (by omega : b = 0 ∨ b = 1 ∨ b = 2 ∨ b = 3 ∨ b = 4) with rfl | rfl | rfl | rfl | rfl <;> rfl
theorem mwidth_call {s c b : Nat} (hs : s ≤ 2) (hc1 : 1 ≤ c) (hc2 : c ≤ 2) (hb : b < s + 3) (w : World) (hL : Mode.Laid w) : Calls Tryd.prog 23 #[.agg #[.int .i64 s, .int .i64 c], .int .i64 b] w fun e w' => e = .returned (.int .i64 (bw b : Int)) ∧ Below w.heap.size w w' :=
 Mode.width_in _ _ b _ (by omega) (has_is hs hc1 hc2 hb) w (by rw [← wid_is b (by omega)]; exact hL b (by omega))
theorem mfrom_call {s c b : Nat} (hs : s ≤ 2) (hc1 : 1 ≤ c) (hc2 : c ≤ 2) (hb : b < s + 3) (w : World) (hL : Mode.Laid w) : Calls Tryd.prog 25 #[.agg #[.int .i64 s, .int .i64 c], .int .i64 b] w fun e w' => e = .returned (.int .i64 (bfN b : Int)) ∧ Below w.heap.size w w' := by
 have h := Mode.from_in (s : Int) (c : Int) b (by omega) (has_is hs hc1 hc2 hb) w hL
 rw [show Mode.fr b = (bfN b : Int) by rcases (by omega : b = 0 ∨ b = 1 ∨ b = 2 ∨ b = 3 ∨ b = 4) with rfl | rfl | rfl | rfl | rfl <;> rfl] at h
 exact h
def pu1 (x : Int) : Int := mn (mx x (-32)) 32 * 1024
def pu (l : List Int) : List Int := l.map pu1
theorem pu_loop (l : List Int) (hl : l.length ≤ 1000) : ∀ (d k i : Nat) (acc : List Int), i + d = l.length → d < k → acc.length = i → shape_pulses.l0 k acc l (l.length : Int) (i : Int) = some (acc ++ pu (l.drop i)) := by
 intro d
 induction d with
 | zero =>
  intro k i acc hi hk ha
  obtain ⟨k, rfl⟩ : ∃ m, k = m + 1 := ⟨k - 1, by omega⟩
  simp only [shape_pulses.l0]
  rw [if_neg (by omega), List.drop_eq_nil_of_le (by omega)]
  simp [pu]
 | succ d ih =>
  intro k i acc hi hk ha
  obtain ⟨k, rfl⟩ : ∃ m, k = m + 1 := ⟨k - 1, by omega⟩
  simp only [shape_pulses.l0]
  rw [if_pos (by omega), if_pos (by omega), if_pos (by omega), if_pos (by omega), sw64 (x := (i : Int) + 1) (by omega) (by omega)]
  have h := ih k (i + 1) (acc ++ [mn (mx (rd l (i : Int)) (-32)) 32 * 1024]) (by omega) (by omega) (by simp [ha])
  rw [show ((i : Int) + 1) = ((i + 1 : Nat) : Int) by omega, h, List.drop_eq_getElem_cons (show i < l.length by omega), List.append_assoc]
  have e : rd l (i : Int) = l[i] := by unfold rd; rw [Int.toNat_natCast, List.getD_eq_getElem?_getD, List.getElem?_eq_getElem (show i < l.length by omega)]; rfl
  rw [e]
  rfl
theorem pu_is (l : List Int) (hl : l.length ≤ 1000) : shape_pulses.f 1002 l = some (pu l) := by
 unfold shape_pulses.f
 have h := pu_loop l hl l.length 1002 0 [] (by omega) (by omega) rfl
 simpa using h
theorem pu_len (l : List Int) : (pu l).length = l.length := by simp [pu]
theorem pu_in (l : List Int) : ∀ x ∈ pu l, NoisePlain.I32 x := by
 intro x hx
 obtain ⟨y, _, rfl⟩ := List.mem_map.1 hx
 unfold pu1 NoisePlain.I32
 rw [mx_max, mn_min]
 omega
theorem pulses_call (l : List Int) (n : Nat) (hn : l.length = n) (hl : n ≤ 1000) (A0 : Option Addr) (c0 : Nat) (w : World) (hC : Kd.C (Kd.int .i64) w A0 n l) (hc : n ≤ c0) : Calls Tryd.prog 61 #[.slice A0 n c0] w fun e w' => ∃ v, e = .returned v ∧ Kd.R (Kd.int .i32) 21 w' w.heap.size (fun _ => True) v (pu l) ∧ Below w.heap.size w w' := by
 subst hn
 exact shape_pulses.calls 1002 A0 c0 l _ w hC hc (pu_is l hl)
theorem fold_R (l : List Int) (m : Nat) (hn : l.length = m) (hl : m ≤ 200) (hw : ∀ x ∈ l, NoisePlain.I32 x) (n : Nat) (h32 : n ≤ 32) (s : Int) (A0 : Option Addr) (c : Nat) (w : World) (hC : Kd.C (Kd.int .i32) w A0 m l) (hc : m ≤ c) :
 Calls Tryd.prog 16 #[.slice A0 m c, .int .i64 (n : Int), .int .u32 s] w fun e w' => ∃ v, e = .returned (.tuple #[v, .int .u32 (fo l n s).2]) ∧ Kd.R (Kd.int .i32) 21 w' w.heap.size (fun _ => True) v (fo l n s).1 ∧ Below w.heap.size w w' := by
 subst hn
 have h := OShapeNoise.shape_Fold.calls 300 A0 c l (n : Int) s (fo l (hd n) s).1 (fo l (hd n) s).2 w hC hc (NoisePlain.fold_fn l hl hw n s)
 rw [show hd (n : Int) = n by unfold hd; omega] at h
 exact h
def rowI (l : List Int) : Array Value := (l.map (Value.int .i32)).toArray
theorem rowI_sz (l : List Int) : (rowI l).size = l.length := by simp [rowI]
theorem rowI_one (l : List Int) : (rowI l).all (·.oneCell') = true := all_oneCell_toArray (fun v hv => by
 obtain ⟨x, _, rfl⟩ := List.mem_map.1 hv; rfl)
def spl (O : List Int) (o : Nat) (y : List Int) : List Int := O.take o ++ (y ++ O.drop (o + y.length))
theorem spl_len {O : List Int} {o : Nat} {y : List Int} (h : o + y.length ≤ O.length) : (spl O o y).length = O.length := by
 simp [spl]; omega
theorem spl_row (O : List Int) (o : Nat) (y : List Int) : ((rowI O).toList.take o ++ (y.map (Value.int .i32) ++ (rowI O).toList.drop (o + (y.map (Value.int .i32)).length))).toArray = rowI (spl O o y) := by
 simp [rowI, spl, List.map_take, List.map_drop]
structure SI (w0 w : World) (s c : Nat) (f : Fr) (O : List Int) (v0 v1 : Value) (l0 l1 : List Int) : Prop where
 b : Below w0.heap.size w0 w
 md : w.heap[w0.heap.size]? = some (.cells #[.int .i64 (s : Int), .int .i64 (c : Int)] 53 (0, 0))
 fr : w.heap[w0.heap.size + 1]? = some (.cells f.cells.toArray 61 (0, 0))
 rs : ∃ Z : List Int, Z.length = 64 ∧ w.heap[w0.heap.size + 1 + 1]? = some (.cells (rowI Z) 66 (0, 0))
 out : w.heap[w0.heap.size + 1 + 1 + 1]? = some (.cells (rowI O) 66 (0, 0))
 ol : O.length = 64
 sh : w.heap[w0.heap.size + 1 + 1 + 1 + 1]? = some (.cells #[v0, v1] 115 (0, 0))
 r0 : Kd.R (Kd.int .i32) 21 w w0.heap.size (fun _ => True) v0 l0
 r1 : Kd.R (Kd.int .i32) 21 w w0.heap.size (fun _ => True) v1 l1
 lm : Mode.Laid w
 lp : Shape.Laid w
 ls : Spread.Laid w
section
variable {w0 w w1 : World} {s c : Nat} {f : Fr} {O : List Int} {v0 v1 : Value} {l0 l1 : List Int}
theorem SI.below (h : SI w0 w s c f O v0 v1 l0 l1) (hb : Below w.heap.size w w1) : SI w0 w1 s c f O v0 v1 l0 l1 := by
 obtain ⟨b, md, fr, ⟨Z, hz, rs⟩, out, ol, sh, r0, r1, lm, lp, ls⟩ := h
 exact ⟨below_step b hb, blk_below md hb, blk_below fr hb, ⟨Z, hz, blk_below rs hb⟩, blk_below out hb, ol, blk_below sh hb, Kd.R_below r0 hb, Kd.R_below r1 hb, lm.below hb, lp.below hb, ls.below hb⟩
theorem mode_far (h : Mode.Laid w) (hp : ∀ k, k < 3 → w1.heap[k]? = w.heap[k]?) : Mode.Laid w1 := fun i hi => by
 have := h i hi
 simpa [World.cell?, hp 0 (by decide)] using this
theorem pow_far (h : Shape.Laid w) (hp : ∀ k, k < 3 → w1.heap[k]? = w.heap[k]?) : Shape.Laid w1 := fun i hi => by
 have := h i hi
 simpa [World.cell?, hp 1 (by decide)] using this
theorem spread_far (h : Spread.Laid w) (hp : ∀ k, k < 3 → w1.heap[k]? = w.heap[k]?) : Spread.Laid w1 := fun i hi => by
 have := h i hi
 simpa [World.cell?, hp 2 (by decide)] using this
theorem SI.put0 (h : SI w0 w s c f O v0 v1 l0 l1) (h3 : 3 ≤ w0.heap.size) {v : Value} {l : List Int} (hv : Kd.R (Kd.int .i32) 21 w w0.heap.size (fun _ => True) v l) : SI w0 (w.setCell ⟨w0.heap.size + 1 + 1 + 1 + 1, 0, none⟩ v) s c f O v v1 l l1 := by
 obtain ⟨b, md, fr, ⟨Z, hz, rs⟩, out, ol, sh, r0, r1, lm, lp, ls⟩ := h
 have far : ∀ k, k ≠ w0.heap.size + 1 + 1 + 1 + 1 → (w.setCell ⟨w0.heap.size + 1 + 1 + 1 + 1, 0, none⟩ v).heap[k]? = w.heap[k]? := fun k hk => Below.heap_setCell _ _ _ _ hk
 exact ⟨b.setCell (p := ⟨w0.heap.size + 1 + 1 + 1 + 1, 0, none⟩) (by show w0.heap.size ≤ w0.heap.size + 1 + 1 + 1 + 1; omega) _, (far _ (by omega)).trans md, (far _ (by omega)).trans fr, ⟨Z, hz, (far _ (by omega)).trans rs⟩, (far _ (by omega)).trans out, ol, blk_put sh 0 v rfl, Kd.R_set hv sh (by simp [Kd.int, Kd.scalar]) 0 v, Kd.R_set r1 sh (by simp [Kd.int, Kd.scalar]) 0 v, mode_far lm (fun k hk => far k (by omega)), pow_far lp (fun k hk => far k (by omega)), spread_far ls (fun k hk => far k (by omega))⟩
theorem SI.put1 (h : SI w0 w s c f O v0 v1 l0 l1) (h3 : 3 ≤ w0.heap.size) {v : Value} {l : List Int} (hv : Kd.R (Kd.int .i32) 21 w w0.heap.size (fun _ => True) v l) : SI w0 (w.setCell ⟨w0.heap.size + 1 + 1 + 1 + 1, 1, none⟩ v) s c f O v0 v l0 l := by
 obtain ⟨b, md, fr, ⟨Z, hz, rs⟩, out, ol, sh, r0, r1, lm, lp, ls⟩ := h
 have far : ∀ k, k ≠ w0.heap.size + 1 + 1 + 1 + 1 → (w.setCell ⟨w0.heap.size + 1 + 1 + 1 + 1, 1, none⟩ v).heap[k]? = w.heap[k]? := fun k hk => Below.heap_setCell _ _ _ _ hk
 exact ⟨b.setCell (p := ⟨w0.heap.size + 1 + 1 + 1 + 1, 1, none⟩) (by show w0.heap.size ≤ w0.heap.size + 1 + 1 + 1 + 1; omega) _, (far _ (by omega)).trans md, (far _ (by omega)).trans fr, ⟨Z, hz, (far _ (by omega)).trans rs⟩, (far _ (by omega)).trans out, ol, blk_put sh 1 v rfl, Kd.R_set r0 sh (by simp [Kd.int, Kd.scalar]) 1 v, Kd.R_set hv sh (by simp [Kd.int, Kd.scalar]) 1 v, mode_far lm (fun k hk => far k (by omega)), pow_far lp (fun k hk => far k (by omega)), spread_far ls (fun k hk => far k (by omega))⟩
theorem R_setRow {v : Value} {l : List Int} {g base : Nat} {ok : Nat → Prop} (h : Kd.R (Kd.int .i32) 21 w base ok v l) {cs cs' : Array Value} {t : Nat} (hg : w.heap[g]? = some (.cells cs t (0, 0))) (ht : t ≠ 21) : Kd.R (Kd.int .i32) 21 (w.setRow g cs') base ok v l :=
 Kd.R_mono (Kd.R_step (Kd.R_types h hg (by simp [Kd.int, Kd.scalar]; exact fun e => ht e.symm)) (fun k hk _ => setRow_other w g k cs' hk.2)) (fun k hk => hk.1)
theorem SI.row (h : SI w0 w s c f O v0 v1 l0 l1) (h3 : 3 ≤ w0.heap.size) {O' : List Int} (hO : O'.length = 64) : SI w0 (w.setRow (w0.heap.size + 1 + 1 + 1) (rowI O')) s c f O' v0 v1 l0 l1 := by
 obtain ⟨b, md, fr, ⟨Z, hz, rs⟩, out, ol, sh, r0, r1, lm, lp, ls⟩ := h
 have far : ∀ k, k ≠ w0.heap.size + 1 + 1 + 1 → (w.setRow (w0.heap.size + 1 + 1 + 1) (rowI O')).heap[k]? = w.heap[k]? := fun k hk => setRow_other _ _ _ _ hk
 exact ⟨below_setRow b (by omega) _, (far _ (by omega)).trans md, (far _ (by omega)).trans fr, ⟨Z, hz, (far _ (by omega)).trans rs⟩, setRow_heap _ _ _ _ _ _ out, hO, (far _ (by omega)).trans sh, R_setRow r0 out (by decide), R_setRow r1 out (by decide), mode_far lm (fun k hk => far k (by omega)), pow_far lp (fun k hk => far k (by omega)), spread_far ls (fun k hk => far k (by omega))⟩
theorem R_C {v : Value} {l : List Int} {base n : Nat} {ok : Nat → Prop} (h : Kd.R (Kd.int .i32) 21 w base ok v l) (hn : l.length = n) : ∃ A0 c0, v = .slice A0 n c0 ∧ n ≤ c0 ∧ Kd.C (Kd.int .i32) w A0 n l := by
 subst hn
 exact Kd.R_reads h
end
section
variable {P : Program}
theorem step_copy_own {ops : Array Oper} {o : Oper} {a : Act} {w : World} {K : Act → World → Prop} {Q : Exit → Act → World → Prop} {E : Prop} (hgd : o.guard = none) (d s : Operand) (dT sT : TypeId)
 (ho : o.op = .call { callee := .builtin .copy, args := #[d, s], argTypes := #[dT, sT] }) (elem : TypeId) (hu : P.underlying dT = some (.slice elem)) (hsz : (P.info? elem).map (·.size) = some 1)
 (g off dLen dCap : Nat) (ad : Addr) (sLen sCap : Nat) (hd : a.eval d = .slice (some ⟨g, off, none⟩) dLen dCap) (hs : a.eval s = .slice (some ad) sLen sCap)
 (cur : Array Value) (t : TypeId) (hg : w.heap[g]? = some (.cells cur t (0, 0))) (cs : List Value) (hn : cs.length = Nat.min sLen dLen)
 (hsrc : ∀ j v, cs[j]? = some v → w.cell? (ad.add j) = some v) (hfit : off + cs.length ≤ cur.size) (h1 : ∀ v ∈ cs, v.oneCell' = true)
 (h : K (a.put o.dst (goInt cs.length)) (w.setRow g (cur.toList.take off ++ (cs ++ cur.toList.drop (off + cs.length))).toArray)) :
 if Region.wanted o (yielded ops a.tmps) = true then Oper.wp P o a w K Q else E := by
 have hw : Region.wanted o (yielded ops a.tmps) = true := by simp [Region.wanted, hgd]
 rw [if_pos hw]
 have hrun := run_copy_row (P := P) w dT sT o.type elem g off dLen dCap ad sLen sCap cur t cs hu hsz hg hn hsrc hfit h1
 unfold Oper.wp
 simp [execOp, ho, resolve, invoke, builtin, hd, hs, hrun, Result.andThen]
 exact h
end
structure Sp where
 l0 : List Int
 l1 : List Int
 o : List Int
 sd : Int
def xb (f : Fr) (q b : Nat) : List Int := (List.range (bw b)).map (fun t => ga f.L (28 + (q * 32 + (bfN b + t))))
def shp (f : Fr) (q b : Nat) (z : Sp) : List Int × Int := if 0 < ga f.L (23 + b) then (sp (ga f.L 0) (pu (xb f q b)), z.sd) else fo (if q = 0 then z.l0 else z.l1) (bw b) z.sd
def spStep (f : Fr) (b q : Nat) (z : Sp) : Sp := ⟨if q = 0 then (shp f q b z).1 else z.l0, if q = 0 then z.l1 else (shp f q b z).1, spl z.o (q * 32 + bfN b) (sc (lo f q b) (shp f q b z).1), (shp f q b z).2⟩
def spRow (f : Fr) (b : Nat) : Nat → Sp → Sp
 | 0, z => z
 | q + 1, z => spStep f b q (spRow f b q z)
def spAll (f : Fr) (c : Nat) : Nat → Sp → Sp
 | 0, z => z
 | b + 1, z => spRow f b c (spAll f c b z)
def sp0 (sd : Int) : Sp := ⟨[], [], List.replicate 64 0, sd⟩
structure Fine (z : Sp) : Prop where
 n0 : z.l0.length ≤ 16
 n1 : z.l1.length ≤ 16
 w0 : ∀ x ∈ z.l0, NoisePlain.I32 x
 w1 : ∀ x ∈ z.l1, NoisePlain.I32 x
 o : z.o.length = 64
theorem xb_len (f : Fr) (q b : Nat) : (xb f q b).length = bw b := by simp [xb]
theorem ss32_in (x : Int) : NoisePlain.I32 (Spread.s32 x) := by
 unfold Spread.s32 NoisePlain.I32
 rw [mn_min, mx_max]
 omega
theorem tn_I32 (c s : Int) (i : Nat) (xs : List Int) (hw : ∀ x ∈ xs, NoisePlain.I32 x) : ∀ x ∈ Spread.tn c s i xs, NoisePlain.I32 x := by
 intro x hx
 unfold Spread.tn at hx
 rcases List.mem_or_eq_of_mem_set hx with h | h
 ·rcases List.mem_or_eq_of_mem_set h with h | h
  ·exact hw x h
  ·rw [h]; exact ss32_in _
 ·rw [h]; exact ss32_in _
theorem upw_I32 (c s : Int) : ∀ (d i : Nat) (xs : List Int), (∀ x ∈ xs, NoisePlain.I32 x) → ∀ x ∈ Spread.upw c s d i xs, NoisePlain.I32 x
 | 0, _, _, h => h
 | d + 1, i, xs, h => upw_I32 c s d (i + 1) _ (tn_I32 c s i xs h)
theorem dnw_I32 (c s : Int) : ∀ (m : Nat) (xs : List Int), (∀ x ∈ xs, NoisePlain.I32 x) → ∀ x ∈ Spread.dnw c s m xs, NoisePlain.I32 x
 | 0, _, h => h
 | m + 1, xs, h => dnw_I32 c s m _ (tn_I32 c s m xs h)
theorem sp_I32 (a : Int) (xs : List Int) (h : ∀ x ∈ xs, NoisePlain.I32 x) : ∀ x ∈ sp a xs, NoisePlain.I32 x := by
 unfold sp; split
 ·exact h
 ·exact dnw_I32 _ _ _ _ (upw_I32 _ _ _ _ _ h)
theorem shp_fine {f : Fr} {q b : Nat} {z : Sp} (hb : b ≤ 4) (h : Fine z) : (shp f q b z).1.length = bw b ∧ ∀ x ∈ (shp f q b z).1, NoisePlain.I32 x := by
 unfold shp
 split
 ·exact ⟨by rw [sp_len, pu_len, xb_len], sp_I32 _ _ (pu_in _)⟩
 ·refine ⟨fo_len _ _ _, fo_in _ ?_ _ _⟩
  split
  ·exact h.w0
  ·exact h.w1
theorem step_fine {f : Fr} {q b : Nat} {z : Sp} (hb : b ≤ 4) (hq : q ≤ 1) (h : Fine z) : Fine (spStep f b q z) := by
 obtain ⟨h1, h2⟩ := shp_fine (f := f) (q := q) hb h
 have hw := bfN_in hb
 refine ⟨?_, ?_, ?_, ?_, ?_⟩
 ·show (if q = 0 then _ else _ : List Int).length ≤ 16
  split
  ·omega
  ·exact h.n0
 ·show (if q = 0 then _ else _ : List Int).length ≤ 16
  split
  ·exact h.n1
  ·omega
 ·show ∀ x ∈ (if q = 0 then _ else _ : List Int), _
  split
  ·exact h2
  ·exact h.w0
 ·show ∀ x ∈ (if q = 0 then _ else _ : List Int), _
  split
  ·exact h.w1
  ·exact h2
 ·show (spl z.o (q * 32 + bfN b) (sc (lo f q b) (shp f q b z).1)).length = 64
  rw [spl_len (by rw [sc_len, h1, h.o]; omega), h.o]
theorem sp0_fine (sd : Int) : Fine (sp0 sd) := ⟨by simp [sp0], by simp [sp0], by simp [sp0], by simp [sp0], by simp [sp0]⟩
theorem row_fine {f : Fr} {b : Nat} {z : Sp} (hb : b ≤ 4) (h : Fine z) : ∀ q, q ≤ 2 → Fine (spRow f b q z)
 | 0, _ => h
 | q + 1, hq => step_fine hb (by omega) (row_fine hb h q (by omega))
theorem all_fine {f : Fr} {c : Nat} (hc : c ≤ 2) (sd : Int) : ∀ b, b ≤ 5 → Fine (spAll f c b (sp0 sd))
 | 0, _ => sp0_fine sd
 | b + 1, hb => row_fine (by omega) (all_fine hc sd b (by omega)) c hc
theorem xb_C {w : World} {f : Fr} {g t : Nat} (hl : f.L.length = 92) (hg : w.heap[g]? = some (.cells f.cells.toArray t (0, 0))) {q b : Nat} (hq : q ≤ 1) (hb : b ≤ 4) : Kd.C (Kd.int .i64) w (some ⟨g, 30 + q * 32 + bfN b, none⟩) (bw b) (xb f q b) := by
 have hw := bfN_in hb
 refine ⟨xb_len f q b, by omega, fun _ => ⟨_, rfl, fun j p hp => ⟨[.int .i64 p], rfl, rfl, fun i u hu => ?_⟩⟩⟩
 have hj : j < bw b := by
  have := (List.getElem?_eq_some_iff.1 hp).1
  rwa [xb_len] at this
 have hi : i = 0 := by
  have := (List.getElem?_eq_some_iff.1 hu).1
  simp at this; omega
 subst hi
 have hu2 : u = .int .i64 p := by simpa using hu.symm
 subst hu2
 rw [Addr.add_mid]
 have hp2 : p = ga f.L (28 + (q * 32 + (bfN b + j))) := by
  unfold xb at hp
  rw [List.getElem?_map, List.getElem?_range hj] at hp
  exact (Option.some.inj hp).symm
 rw [hp2]
 exact frc hl hg (by omega) (by show 30 + q * 32 + bfN b + (j * 1 + 0) = _; omega)
def zero64 : List Int := List.replicate 64 0
theorem z66 : (Tryd.prog.info? 66).map (·.zero) = some (some (.agg (rowI zero64))) := by kernel_rfl
structure SJ (w0 w : World) (s c : Nat) (f : Fr) : Prop where
 b : Below w0.heap.size w0 w
 md : w.heap[w0.heap.size]? = some (.cells #[.int .i64 (s : Int), .int .i64 (c : Int)] 53 (0, 0))
 fr : w.heap[w0.heap.size + 1]? = some (.cells f.cells.toArray 61 (0, 0))
 rs : w.heap[w0.heap.size + 1 + 1]? = some (.cells (rowI zero64) 66 (0, 0))
 out : w.heap[w0.heap.size + 1 + 1 + 1]? = some (.cells (rowI zero64) 66 (0, 0))
 sz : w.heap.size = w0.heap.size + 1 + 1 + 1 + 1
theorem alloc_S8 {ops : Array Oper} {rest : List Oper} {o : Oper} {a : Act} {w0 : World} {Q : Exit → Act → World → Prop} (s c : Nat) (f : Fr) (hg : o.guard = none) (ho : o.op = .alloc 66) (hd : o.dst = some 8)
 (h : ∀ W, SJ w0 W s c f → wpList Tryd.prog ops Q rest (a.put (some 8) (.pointer (some ⟨w0.heap.size + 1 + 1 + 1, 0, none⟩))) W) : wpList Tryd.prog ops Q (o :: rest) a (((w0.alloc (.cells #[.int .i64 (s : Int), .int .i64 (c : Int)] 53)).alloc (.cells f.cells.toArray 61)).alloc (.cells (rowI zero64) 66)) := by
 refine alloc_to hg 66 ho _ z66 ?_
 have s1 : (w0.alloc (.cells #[.int .i64 (s : Int), .int .i64 (c : Int)] 53)).heap.size = w0.heap.size + 1 := by simp [World.alloc_eq]
 have s2 : ((w0.alloc (.cells #[.int .i64 (s : Int), .int .i64 (c : Int)] 53)).alloc (.cells f.cells.toArray 61)).heap.size = w0.heap.size + 1 + 1 := by simp [World.alloc_eq]
 have s3 : (((w0.alloc (.cells #[.int .i64 (s : Int), .int .i64 (c : Int)] 53)).alloc (.cells f.cells.toArray 61)).alloc (.cells (rowI zero64) 66)).heap.size = w0.heap.size + 1 + 1 + 1 := by simp [World.alloc_eq]
 rw [hd, s3]
 refine h _ ⟨below_alloc (below_alloc (below_alloc (below_alloc (Below.refl _ _) _) _) _) _, blk_alloc (blk_alloc (blk_alloc (blk_new _ _) _) _) _, ?_, ?_, ?_, by simp [World.alloc_eq]⟩
 ·rw [← s1]; exact blk_alloc (blk_alloc (blk_new _ _) _) _
 ·rw [← s2]; exact blk_alloc (blk_new _ _) _
 ·rw [← s3]; exact blk_new _ _
theorem z115 : (Tryd.prog.info? 115).map (·.zero) = some (some (.agg #[.slice none 0 0, .slice none 0 0])) := by kernel_rfl
theorem alloc_S9 {ops : Array Oper} {rest : List Oper} {o : Oper} {a : Act} {w0 W : World} {Q : Exit → Act → World → Prop} {s c : Nat} {f : Fr} (H : SJ w0 W s c f) (lm : Mode.Laid w0) (lp : Shape.Laid w0) (ls : Spread.Laid w0) (hg : o.guard = none) (ho : o.op = .alloc 115) (hd : o.dst = some 9)
 (h : ∀ W, SI w0 W s c f zero64 (.slice none 0 0) (.slice none 0 0) [] [] → wpList Tryd.prog ops Q rest (a.put (some 9) (.pointer (some ⟨w0.heap.size + 1 + 1 + 1 + 1, 0, none⟩))) W) : wpList Tryd.prog ops Q (o :: rest) a W := by
 refine alloc_to hg 115 ho _ z115 ?_
 rw [hd, H.sz]
 have hb := below_alloc (Below.refl W.heap.size W) (.cells #[.slice none 0 0, .slice none 0 0] 115)
 have hbb := below_step H.b hb
 refine h _ ⟨hbb, blk_alloc H.md _, blk_alloc H.fr _, ⟨_, by simp [zero64], blk_alloc H.rs _⟩, blk_alloc H.out _, by simp [zero64], ?_, Kd.R_nil _ _ _ _ _, Kd.R_nil _ _ _ _ _, lm.below hbb, lp.below hbb, ls.below hbb⟩
 rw [← H.sz]; exact blk_new _ _
theorem R_C2 {w : World} {A0 : Option Addr} {n c0 base : Nat} {ok : Nat → Prop} {l : List Int} (h : Kd.R (Kd.int .i32) 21 w base ok (.slice A0 n c0) l) (hn : l.length = n) : n ≤ c0 ∧ Kd.C (Kd.int .i32) w A0 n l := by
 obtain ⟨A1, c1, hv, hc, hC⟩ := R_C h hn
 injection hv with a b c
 subst a c
 exact ⟨hc, hC⟩
theorem src_at {w : World} {ad : Addr} {l : List Int} (h : ∀ (j : Nat) (p : Int), l[j]? = some p → ∃ c : List Value, c.length = (Kd.int .i32).sz ∧ (Kd.int .i32).K w p c ∧ ∀ i u, c[i]? = some u → w.cell? (ad.add (j * (Kd.int .i32).sz + i)) = some u) : ∀ (j : Nat) (v : Value), (l.map (Value.int .i32))[j]? = some v → w.cell? (ad.add j) = some v := by
 intro j v hv
 rw [List.getElem?_map] at hv
 obtain ⟨p, hp, rfl⟩ := Option.map_eq_some_iff.1 hv
 obtain ⟨c, hc, hK, hcell⟩ := h j p hp
 have e : c = [.int .i32 p] := hK
 subst e
 have := hcell 0 _ rfl
 simpa [Kd.int, Kd.scalar] using this
theorem SI.size {w0 w : World} {s c : Nat} {f : Fr} {O : List Int} {v0 v1 : Value} {l0 l1 : List Int} (h : SI w0 w s c f O v0 v1 l0 l1) : w0.heap.size + 5 ≤ w.heap.size := by have := blk_lt h.sh; omega
theorem SI.putq {w0 w : World} {s c : Nat} {f : Fr} {O : List Int} {v0 v1 : Value} {l0 l1 : List Int} (h : SI w0 w s c f O v0 v1 l0 l1) (h3 : 3 ≤ w0.heap.size) {q : Nat} (hq : q ≤ 1) {v : Value} {l : List Int} (hv : Kd.R (Kd.int .i32) 21 w w0.heap.size (fun _ => True) v l) : SI w0 (w.setCell ⟨w0.heap.size + 1 + 1 + 1 + 1, q, none⟩ v) s c f O (if q = 0 then v else v0) (if q = 0 then v1 else v) (if q = 0 then l else l0) (if q = 0 then l1 else l) := by
 rcases (by omega : q = 0 ∨ q = 1) with rfl | rfl
 ·exact h.put0 h3 hv
 ·exact h.put1 h3 hv
theorem SI.cellq {w0 w : World} {s c : Nat} {f : Fr} {O : List Int} {v0 v1 : Value} {l0 l1 : List Int} (h : SI w0 w s c f O v0 v1 l0 l1) {q : Nat} (hq : q ≤ 1) : w.cell? ⟨w0.heap.size + 1 + 1 + 1 + 1, q, none⟩ = some (if q = 0 then v0 else v1) ∧ w.frozen? ⟨w0.heap.size + 1 + 1 + 1 + 1, q, none⟩ = false ∧ Kd.R (Kd.int .i32) 21 w w0.heap.size (fun _ => True) (if q = 0 then v0 else v1) (if q = 0 then l0 else l1) := by
 refine ⟨?_, blk_frozen h.sh q, ?_⟩
 ·rw [blk_cell h.sh]
  rcases (by omega : q = 0 ∨ q = 1) with rfl | rfl <;> rfl
 ·rcases (by omega : q = 0 ∨ q = 1) with rfl | rfl
  ·exact h.r0
  ·exact h.r1
theorem fr_sz61 (f : Fr) (hl : f.L.length = 92) : (Tryd.prog.info? 61).map (·.size) = some f.cells.toArray.size := by
 rw [show f.cells.toArray.size = 94 by simp [Fr.cells, hl]]; kernel_rfl
set_option maxHeartbeats 4000000 in
set_option maxRecDepth 100000 in
theorem spec_silent (s c : Nat) (it : Bool) (L : List Int) (sd : Int) (hs : s ≤ 2) (hc1 : 1 ≤ c) (hc2 : c ≤ 2) (hl : L.length = 92) (w : World) (lm : Mode.Laid w) (lp : Shape.Laid w) (ls : Spread.Laid w) :
 Calls Tryd.prog 21 #[.agg #[.int .i64 s, .int .i64 c], .agg (Fr.cells ⟨true, it, L⟩).toArray, .int .u32 sd] w fun e w' => e = .returned (.tuple #[.agg (rowI zero64), .int .u32 sd]) ∧ Below w.heap.size w w' := by
 obtain ⟨f, hf⟩ : ∃ f, Fr.mk true it L = f := ⟨_, rfl⟩
 have h0 : f.cells.toArray[0]? = some (.bool true) := by rw [← hf]; exact Fr.cells_0 _
 have hfl : f.L.length = 92 := by rw [← hf]; exact hl
 rw [hf]
 have h3 : 3 ≤ w.heap.size := by have := World.block_lt_of_cell? w _ (ls 0 (by decide)).1; show 2 < _; exact this
 have HSZ := Aside0.mk (fr_sz61 f hfl)
 have H3 := Aside0.mk h3
 have HLM := Aside0.mk lm
 have HLP := Aside0.mk lp
 have HLS := Aside0.mk ls
 have HS2 := Aside0.mk (And.intro hs (And.intro hc1 hc2))
 have HFL := Aside0.mk hfl
 have HFF := Aside0.mk hf
 clear lm lp ls h3 hs hc1 hc2 hl hf hfl
 go_enter Tryd.func21, Tryd.ntmps21
 go_wp2_with (first
  | ((with_reducible refine alloc_S8 s c f rfl rfl rfl ?_); intro W h8; have HJ := Aside0.mk h8; have hc0 := (blk_cell h8.fr 0).trans h0; clear h8)
  | (with_reducible refine alloc_to rfl 66 rfl _ z66 ?_)
  | (refine wpList_load_row rfl 66 (.tmp 8) rfl (w.heap.size + 1 + 1 + 1) rfl 66 (rowI zero64) (0, 0) _ HJ.out.out Tryd.underlying66 rfl (by kernel_rfl) ?_)
  | (refine wpList_store_row rfl 66 (.tmp 6) (.tmp 17) rfl (w.heap.size + 1 + 1) (rowI zero64) rfl rfl 66 _ HJ.out.rs (by kernel_rfl) rfl (rowI_one _) ?_))
 refine bodyPost_ret (results_cell_tmp rfl _ _ (w.heap.size + 1 + 1) 66 _ _ _ _ rfl (setRow_heap _ _ _ _ _ _ HJ.out.rs) Tryd.underlying66 rfl (by kernel_rfl) rfl) rfl ?_
 exact ⟨rfl, below_setRow HJ.out.b (by omega) _⟩
set_option maxHeartbeats 16000000 in
set_option maxRecDepth 100000 in
theorem spec_loud (s c : Nat) (it : Bool) (L : List Int) (sd : Int) (hs : s ≤ 2) (hc1 : 1 ≤ c) (hc2 : c ≤ 2) (hl : L.length = 92) (w : World) (lm : Mode.Laid w) (lp : Shape.Laid w) (ls : Spread.Laid w) :
 Calls Tryd.prog 21 #[.agg #[.int .i64 s, .int .i64 c], .agg (Fr.cells ⟨false, it, L⟩).toArray, .int .u32 sd] w fun e w' => e = .returned (.tuple #[.agg (rowI (spAll ⟨false, it, L⟩ c (s + 3) (sp0 sd)).o), .int .u32 (spAll ⟨false, it, L⟩ c (s + 3) (sp0 sd)).sd]) ∧ Below w.heap.size w w' := by
 obtain ⟨f, hf⟩ : ∃ f, Fr.mk false it L = f := ⟨_, rfl⟩
 have h0 : f.cells.toArray[0]? = some (.bool false) := by rw [← hf]; exact Fr.cells_0 _
 have hfl : f.L.length = 92 := by rw [← hf]; exact hl
 rw [hf]
 have h3 : 3 ≤ w.heap.size := by have := World.block_lt_of_cell? w _ (ls 0 (by decide)).1; show 2 < _; exact this
 have HSZ := Aside0.mk (fr_sz61 f hfl)
 have H3 := Aside0.mk h3
 have HLM := Aside0.mk lm
 have HLP := Aside0.mk lp
 have HLS := Aside0.mk ls
 have HS2 := Aside0.mk (And.intro hs (And.intro hc1 hc2))
 have HFL := Aside0.mk hfl
 have HFF := Aside0.mk hf
 clear lm lp ls h3 hs hc1 hc2 hl hf hfl
 go_enter Tryd.func21, Tryd.ntmps21
 go_wp2_with (first
  | ((with_reducible refine alloc_S8 s c f rfl rfl rfl ?_); intro W h8; have HJ := Aside0.mk h8; have hc0 := (blk_cell h8.fr 0).trans h0; clear h8)
  | (with_reducible refine alloc_to rfl 66 rfl _ z66 ?_)
  | ((with_reducible refine alloc_S9 HJ.out HLM.out HLP.out HLS.out rfl rfl rfl ?_); intro W2 h9; obtain ⟨v0, v1, HI⟩ : ∃ v0 v1, Aside0 (SI w W2 s c f (sp0 sd).o v0 v1 (sp0 sd).l0 (sp0 sd).l1) := ⟨_, _, ⟨h9⟩⟩; clear h9 HJ hc0)
  | (refine wpList_load_row rfl 53 (.tmp 3) rfl w.heap.size rfl 53 #[.int .i64 s, .int .i64 c] (0, 0) _ HI.out.md Tryd.underlying53 rfl (by kernel_rfl) ?_)
  | (go_at_call 22; (with_reducible refine (mbands_call HS2.out.1 HS2.out.2.1 HS2.out.2.2 _).mono ?_); rintro e w1 ⟨rfl, hb1⟩; have HI1 := Aside0.mk (HI.out.below hb1); clear HI hb1; have HI := HI1; clear HI1))
 go_loopw [2, 21] (fun sv bv wr => ∃ (b : Nat) (v0 v1 : Value), b ≤ s + 3 ∧ sv = .int .u32 (spAll f c b (sp0 sd)).sd ∧ bv = .int .i64 b ∧ Aside0 (SI w wr s c f (spAll f c b (sp0 sd)).o v0 v1 (spAll f c b (sp0 sd)).l0 (spAll f c b (sp0 sd)).l1)) (fun sv bv _ => ((s : Int) + 3 - intOf bv).toNat)
 case atStart => exact ⟨0, v0, v1, by omega, rfl, rfl, HI⟩
 case round =>
  obtain ⟨b, v0, v1, hb, rfl, rfl, HI2⟩ := hrel
  clear HI
  have HI := HI2
  clear HI2
  by_cases ht : b < s + 3
  ·have d1 : decide ((b : Int) < (s : Int) + 3) = true := decide_eq_true (by omega)
   have HBB : Aside0 (b + 1 ≤ s + 3 ∧ b ≤ 4 ∧ b < s + 3) := ⟨by omega, by have := HS2.out; omega, ht⟩
   have HFI := Aside0.mk (all_fine (f := f) HS2.out.2.2 sd b (by have := HS2.out; omega))
   obtain ⟨z, hz⟩ : ∃ z, spAll f c b (sp0 sd) = z := ⟨_, rfl⟩
   rw [hz] at HI HFI ⊢
   have HZ := Aside0.mk hz
   clear ht hb hz
   have i3 : (0 : Int) ≤ (b : Int) := by omega
   have i4 : (b : Int) < 5 := by have := HBB.out; omega
   go_wp2
   clear d1
   refine wp_region_held_drew (S := (fun w1 => SI w w1 s c f z.o v0 v1 z.l0 z.l1)) (by kernel_rfl) ?hS0 (fun hHeld => ?_)
   case hS0 => exact HI.out.below (drew_self _)
   refine wpAnyH_take (i := 0) (oi := ⟨_, _, _, _, _, _⟩) (v := .agg #[.int .i64 s, .int .i64 c]) rfl (by kernel_rfl) (by kernel_rfl) (by kernel_rfl) (fun _ _ _ h => h) (yieldsIf_load_row (by rfl) 53 (.tmp 3) rfl w.heap.size rfl 53 #[.int .i64 s, .int .i64 c] (0, 0) _ (fun w1 h1 => h1.md) Tryd.underlying53 rfl (by kernel_rfl)) hHeld ?_
   (try simp only [Act.put, zA1, zA2, zA3])
   refine wpAnyH_take (i := 3) (oi := ⟨_, _, _, _, _, _⟩) (v := .agg #[.int .i64 s, .int .i64 c]) rfl (by kernel_rfl) (by kernel_rfl) (by kernel_rfl) (fun _ _ _ h => h) (yieldsIf_load_row (by rfl) 53 (.tmp 3) rfl w.heap.size rfl 53 #[.int .i64 s, .int .i64 c] (0, 0) _ (fun w1 h1 => h1.md) Tryd.underlying53 rfl (by kernel_rfl)) hHeld ?_
   (try simp only [Act.put, zA1, zA2, zA3])
   refine zTH (v := ?_) 1 rfl hHeld ?h ?_
   case h => (intro w1 h1; go_simp; (try with_reducible rfl))
   (try simp only [Act.put, zA1, zA2, zA3])
   refine zTH (v := ?_) 4 rfl hHeld ?h ?_
   case h => (intro w1 h1; go_simp; (try with_reducible rfl))
   (try simp only [Act.put, zA1, zA2, zA3])
   refine zOH 2 rfl fun K hK => ?_
   refine goes_ (N := some 26) Tryd.func25 (by kernel_rfl) rfl #[.agg #[.int .i64 s, .int .i64 c], .int .i64 b] (by rfl) rfl rfl (by first | rfl | (simp only [List.map_toArray, List.map_cons, List.map_nil]; rfl)) ?_
   (with_reducible refine (mfrom_call HS2.out.1 HS2.out.2.1 HS2.out.2.2 HBB.out.2.2 _ hHeld.lm).mono ?_); rintro e w2 ⟨rfl, hb2⟩
   refine ⟨_, rfl, ?_⟩
   refine hK.out _ _ ?hSn36 (fun hHeld => ?_)
   case hSn36 => exact hHeld.below hb2
   clear hK K
   (try simp only [Act.put, zA1, zA2, zA3])
   refine zOH 5 rfl fun K hK => ?_
   refine goes_ (N := some 29) Tryd.func23 (by kernel_rfl) rfl #[.agg #[.int .i64 s, .int .i64 c], .int .i64 b] (by rfl) rfl rfl (by first | rfl | (simp only [List.map_toArray, List.map_cons, List.map_nil]; rfl)) ?_
   (with_reducible refine (mwidth_call HS2.out.1 HS2.out.2.1 HS2.out.2.2 HBB.out.2.2 _ hHeld.lm).mono ?_); rintro e w3 ⟨rfl, hb3⟩
   refine ⟨_, rfl, ?_⟩
   refine hK.out _ _ ?hSn37 (fun hHeld => ?_)
   case hSn37 => exact hHeld.below hb3
   clear hK K
   (try simp only [Act.put, zA1, zA2, zA3])
   refine zTH (v := ?_) 6 rfl hHeld ?h ?_
   case h => (intro w1 h1; go_simp; (try with_reducible rfl))
   (try simp only [Act.put, zA1, zA2, zA3])
   refine zTH (v := ?_) 7 rfl hHeld ?h ?_
   case h => (intro w1 h1; go_simp; (try with_reducible rfl))
   (try simp only [Act.put, zA1, zA2, zA3])
   refine wpAnyH_done (by kernel_rfl) ?_ _
   have HI1 := Aside0.mk hHeld
   clear HI hb2 hb3 hHeld
   have HI := HI1
   clear HI1
   have hcc := (blk_cell HI.out.md 1).trans rfl
   go_wp2
   clear hcc
   go_loopw [2, 32] (fun sv qv wr => ∃ (q : Nat) (v0 v1 : Value), q ≤ c ∧ sv = .int .u32 (spRow f b q z).sd ∧ qv = .int .i64 q ∧ Aside0 (SI w wr s c f (spRow f b q z).o v0 v1 (spRow f b q z).l0 (spRow f b q z).l1)) (fun sv qv _ => ((c : Int) - intOf qv).toNat)
   case atStart => exact ⟨0, v0, v1, by omega, rfl, rfl, HI⟩
   case round =>
    obtain ⟨q, v0, v1, hq, rfl, rfl, HI2⟩ := hrel
    clear HI
    have HI := HI2
    clear HI2
    by_cases ht : q < c
    ·have HQQ : Aside0 (q + 1 ≤ c ∧ q ≤ 1) := ⟨by omega, by have := HS2.out; omega⟩
     have HFY := Aside0.mk (row_fine (f := f) HBB.out.2.1 HFI.out q (by have := HS2.out; omega))
     obtain ⟨y, hy⟩ : ∃ y, spRow f b q z = y := ⟨_, rfl⟩
     rw [hy] at HI HFY ⊢
     have HY := Aside0.mk hy
     have hbn := bfN_in HBB.out.2.1
     have i1 : (0 : Int) ≤ (q : Int) := by omega
     have i2 : (q : Int) < 2 := by have := HQQ.out; omega
     have hkc := frc HFL.out HI.out.fr (j := 23 + b) (k := 25 + b) (by have := HBB.out; omega) (by omega)
     obtain ⟨lx, hlx⟩ : ∃ lx, (shp f q b y).1 = lx := ⟨_, rfl⟩
     obtain ⟨hxl, hxw⟩ := shp_fine (f := f) (q := q) HBB.out.2.1 HFY.out
     rw [hlx] at hxl hxw
     have HXL := Aside0.mk (And.intro hxl hxw)
     clear hq hy hxl hxw
     by_cases hk : 0 < ga f.L (23 + b)
     ·have HX : Aside0 (shp f q b y = (lx, y.sd) ∧ lx = sp (ga f.L 0) (pu (xb f q b))) := ⟨by rw [← hlx]; unfold shp; rw [if_pos hk]; exact ⟨rfl, rfl⟩⟩
      have hk1 : decide (0 < ga f.L (23 + b)) = true := decide_eq_true hk
      have j0 : IntKind.i64.wrap ((bfN b : Int) + (bw b : Int)) = (bfN b : Int) + (bw b : Int) := by rw [i64_w]; exact sw64 (by omega) (by omega)
      have j1 : (0 : Int) ≤ (bfN b : Int) := by omega
      have j2 : (bfN b : Int) ≤ (bfN b : Int) + (bw b : Int) := by omega
      have j3 : (bfN b : Int) + (bw b : Int) ≤ 32 := by omega
      have j6 : (bfN b : Int) ≤ 32 := by omega
      have j4 : ¬ (32 = bfN b) := by omega
      have j5 : ((bfN b : Int) + (bw b : Int)).toNat = bfN b + bw b := by omega
      clear hk hlx
      go_wp2
      refine wp_region_held_drew (S := (fun w1 => SI w w1 s c f y.o v0 v1 y.l0 y.l1)) (by kernel_rfl) ?hS0 (fun hHeld => ?_)
      case hS0 => exact HI.out.below (drew_self _)
      refine zTH (v := ?_) 0 rfl hHeld ?h ?_
      case h => (intro w1 h1; go_simp; (try with_reducible rfl))
      (try simp only [Act.put, zA1, zA2, zA3])
      refine zTH (v := ?_) 1 rfl hHeld ?h ?_
      case h => (intro w1 h1; go_simp; (try with_reducible rfl))
      (try simp only [Act.put, zA1, zA2, zA3])
      refine zTH (v := ?_) 2 rfl hHeld ?h ?_
      case h => (intro w1 h1; go_simp; (try with_reducible rfl))
      (try simp only [Act.put, zA1, zA2, zA3])
      refine zTH (v := ?_) 3 rfl hHeld ?h ?_
      case h => (intro w1 h1; go_simp; (try with_reducible rfl))
      (try simp only [Act.put, zA1, zA2, zA3])
      refine zTH (v := ?_) 4 rfl hHeld ?h ?_
      case h => (intro w1 h1; go_simp; (try with_reducible rfl))
      (try simp only [Act.put, zA1, zA2, zA3])
      refine zTH (v := ?_) 5 rfl hHeld ?h ?_
      case h => (intro w1 h1; go_simp; (try with_reducible rfl))
      (try simp only [Act.put, zA1, zA2, zA3])
      refine zTH (v := ?_) 6 rfl hHeld ?h ?_
      case h => (intro w1 h1; go_simp; (try with_reducible rfl))
      (try simp only [Act.put, zA1, zA2, zA3])
      refine zTH (v := ?_) 7 rfl hHeld ?h ?_
      case h => (intro w1 h1; go_simp; (try with_reducible rfl))
      (try simp only [Act.put, zA1, zA2, zA3])
      refine zTH (v := ?_) 9 rfl hHeld ?h ?_
      case h => (intro w1 h1; go_simp; (try with_reducible rfl))
      (try simp only [Act.put, zA1, zA2, zA3])
      refine zTH (v := ?_) 10 rfl hHeld ?h ?_
      case h => (intro w1 h1; have h1a := frc HFL.out h1.fr (j := 0) (k := 2) (by decide) rfl; go_simp; (try with_reducible rfl))
      (try simp only [Act.put, zA1, zA2, zA3])
      refine zOH 8 rfl fun K hK => ?_
      refine goes_ (N := some 48) Tryd.func61 (by kernel_rfl) rfl #[.slice (some ⟨w.heap.size + 1, 30 + q * 32 + bfN b, none⟩) (bw b) (32 - bfN b)] (by rfl) rfl rfl (by first | rfl | (simp only [List.map_toArray, List.map_cons, List.map_nil]; rfl)) ?_
      (with_reducible refine (pulses_call (xb f q b) (bw b) (xb_len f q b) (by have := bfN_in HBB.out.2.1; omega) _ _ _ (xb_C HFL.out hHeld.fr HQQ.out.2 HBB.out.2.1) (by have := bfN_in HBB.out.2.1; omega)).mono ?_); rintro e w10 ⟨v, rfl, hv, hb10⟩
      refine ⟨_, rfl, ?_⟩
      refine hK.out _ _ ?hSn31 (fun hHeld => ?_)
      case hSn31 => exact hHeld.below hb10
      clear hK K
      (try simp only [Act.put, zA1, zA2, zA3])
      obtain ⟨Ap, cp, rfl, hcp, hCp⟩ := R_C hv rfl
      have hS10 := hHeld.b.size
      refine zOH 11 rfl fun K hK => ?_
      refine goes_ (N := some 51) Tryd.func60 (by kernel_rfl) rfl #[.slice Ap (pu (xb f q b)).length cp, .int .i64 (ga f.L 0)] (by rfl) rfl rfl (by first | rfl | (simp only [List.map_toArray, List.map_cons, List.map_nil]; rfl)) ?_
      (with_reducible refine (Spread.copy_any (ga f.L 0) (pu (xb f q b)) Ap cp _ hCp hcp (by rw [pu_len, xb_len]; have := bfN_in HBB.out.2.1; omega) hHeld.ls).mono ?_); rintro e w11 ⟨v, rfl, hv2, hb11⟩
      refine ⟨_, rfl, ?_⟩
      refine hK.out _ _ ?hSn32 (fun hHeld => ?_)
      case hSn32 => exact hHeld.below hb11
      clear hK K
      (try simp only [Act.put, zA1, zA2, zA3])
      rw [← HX.out.2] at hv2
      have hv3 := Kd.R_lower hv2 (base' := w.heap.size) hS10
      obtain ⟨Ax, cx, rfl, hcx, hCx⟩ := R_C hv3 HXL.out.1
      refine zTH (v := ?_) 12 rfl hHeld ?h ?_
      case h => (intro w1 h1; go_simp; (try with_reducible rfl))
      (try simp only [Act.put, zA1, zA2, zA3])
      refine wpAnyH_done (by kernel_rfl) ?_ _
      clear HI hv hv2 hcp hCp
      have hHH := Aside0.mk hHeld
      obtain ⟨hcs, hfs, _⟩ := hHeld.cellq HQQ.out.2
      have HV3 := Aside0.mk hv3
      clear hHeld hv3 hcx hCx
      go_wp2
      have HI16 := Aside0.mk (hHH.out.putq H3.out HQQ.out.2 HV3.out)
      have HR16 := Aside0.mk (Kd.R_set HV3.out hHH.out.sh (by simp [Kd.int, Kd.scalar]) q (.slice Ax (bw b) cx))
      clear hHH HV3 hcs hfs
      obtain ⟨wS, hwS⟩ : ∃ x, w11.setCell ⟨w.heap.size + 1 + 1 + 1 + 1, q, none⟩ (.slice Ax (bw b) cx) = x := ⟨_, rfl⟩
      rw [hwS] at HI16 HR16 ⊢
      clear hwS
      refine wp_region_any (by kernel_rfl) ?_
      change wpAny _ _ _ _ _ _ _ (World.drew _)
      refine zT (v := ?_) 0 rfl ?h ?_
      case h => (intro w1; go_simp; (try with_reducible rfl))
      (try simp only [Act.put, zA1, zA2, zA3])
      refine zT (v := ?_) 1 rfl ?h ?_
      case h => (intro w1; go_simp; (try with_reducible rfl))
      (try simp only [Act.put, zA1, zA2, zA3])
      refine zT (v := ?_) 2 rfl ?h ?_
      case h => (intro w1; go_simp; (try with_reducible rfl))
      (try simp only [Act.put, zA1, zA2, zA3])
      refine zT (v := ?_) 3 rfl ?h ?_
      case h => (intro w1; go_simp; (try with_reducible rfl))
      (try simp only [Act.put, zA1, zA2, zA3])
      refine zT (v := ?_) 4 rfl ?h ?_
      case h => (intro w1; go_simp; (try with_reducible rfl))
      (try simp only [Act.put, zA1, zA2, zA3])
      refine zT (v := ?_) 5 rfl ?h ?_
      case h => (intro w1; go_simp; (try with_reducible rfl))
      (try simp only [Act.put, zA1, zA2, zA3])
      refine zT (v := ?_) 6 rfl ?h ?_
      case h => (intro w1; go_simp; (try with_reducible rfl))
      (try simp only [Act.put, zA1, zA2, zA3])
      have HI17 := HI16.out.below (drew_self _)
      have HR17 := Kd.R_below HR16.out (drew_self _)
      clear HI16 HR16
      refine zO 7 rfl fun K hK => ?_
      refine goes_ (N := some 71) Tryd.func62 (by kernel_rfl) rfl #[.pointer (some ⟨w.heap.size + 1, 0, none⟩), .int .i64 q, .int .i64 b] (by rfl) rfl rfl (by first | rfl | (simp only [List.map_toArray, List.map_cons, List.map_nil]; rfl)) ?_
      (with_reducible refine (loud_call f HFL.out (w.heap.size + 1) HQQ.out.2 HBB.out.2.1 _ HI17.fr).mono ?_); rintro e w12 ⟨rfl, hb12⟩
      refine ⟨_, rfl, ?_⟩
      refine hK _ _ ?_
      clear hK K
      (try simp only [Act.put, zA1, zA2, zA3])
      have hxw : ∀ x ∈ lx, ShapePlain.I32 x := fun x hx => HXL.out.2 x hx
      have HI18 := HI17.below hb12
      have HR18 := R_C2 (Kd.R_below HR17 hb12) HXL.out.1
      clear HI17 HR17 hb12
      refine zO 8 rfl fun K hK => ?_
      refine goes_ (N := some 72) Tryd.func11 (by kernel_rfl) rfl #[.slice Ax (bw b) cx, .int .i64 (lo f q b)] (by rfl) rfl rfl (by first | rfl | (simp only [List.map_toArray, List.map_cons, List.map_nil]; rfl)) ?_
      (with_reducible refine (Shape.scale_read (lo f q b) lx (bw b) HXL.out.1 (by have := bfN_in HBB.out.2.1; omega) hxw Ax cx _ HR18.2 HR18.1 HI18.lp).mono ?_); rintro e w13 ⟨Ay, cy, rfl, hCy, hcy, hb13⟩
      refine ⟨_, rfl, ?_⟩
      refine hK _ _ ?_
      clear hK K
      (try simp only [Act.put, zA1, zA2, zA3])
      have HI19 := HI18.below hb13
      obtain ⟨ad, hA, hcell⟩ := hCy.2.2 (by have := bfN_in HBB.out.2.1; omega)
      subst hA
      clear HI18 HR18 hb13 hCy
      have hyl : (sc (lo f q b) lx).length = bw b := by rw [sc_len]; exact HXL.out.1
      refine zO 9 rfl fun K hK => ?_
      refine step_copy_own rfl (.tmp 67) (.tmp 72) 22 22 rfl 21 Tryd.underlying22 (by kernel_rfl) (w.heap.size + 1 + 1 + 1) (q * 32 + bfN b) (32 - bfN b) (32 - bfN b) ad (bw b) cy rfl rfl (rowI y.o) 66 HI19.out ((sc (lo f q b) lx).map (Value.int .i32)) (by rw [List.length_map, hyl]; have := bfN_in HBB.out.2.1; exact (Nat.min_eq_left (by omega)).symm) (src_at hcell) (by rw [List.length_map, hyl, rowI_sz, HI19.ol]; have := bfN_in HBB.out.2.1; have := HQQ.out.2; omega) (by intro v hv; obtain ⟨x, _, rfl⟩ := List.mem_map.1 hv; rfl) ?_
      rw [spl_row]
      refine hK _ _ ?_
      clear hK K
      (try simp only [Act.put, zA1, zA2, zA3])
      refine wpAny_done (by kernel_rfl) ?_ _
      have HI20 := Aside0.mk (HI19.row H3.out (O' := spl y.o (q * 32 + bfN b) (sc (lo f q b) lx)) (by rw [spl_len (by rw [hyl, HI19.ol]; have := bfN_in HBB.out.2.1; have := HQQ.out.2; omega)]; exact HI19.ol))
      clear HI19 hcell
      go_wp2
      go_roundw
      case rel =>
       have hst : spRow f b (q + 1) z = spStep f b q y := by show spStep f b q (spRow f b q z) = _; rw [HY.out]
       have hsd : Value.int .u32 (shp f q b y).2 = Value.int .u32 (spRow f b (q + 1) z).sd := by rw [hst]; rfl
       have hsd2 := hsd
       rw [HX.out.1] at hsd2
       exact ⟨q + 1, _, _, HQQ.out.1, hsd2, congrArg (Value.int .i64) (by omega), ⟨by rw [hst]; unfold spStep; rw [show (shp f q b y).1 = lx from by rw [HX.out.1]]; exact HI20.out⟩⟩
      case measure => exact meas_q HQQ.out.1
     ·have hk1 : decide (0 < ga f.L (23 + b)) = false := decide_eq_false hk
      have HX : Aside0 (shp f q b y = fo (if q = 0 then y.l0 else y.l1) (bw b) y.sd) := ⟨by unfold shp; rw [if_neg hk]⟩
      have hlx2 : (fo (if q = 0 then y.l0 else y.l1) (bw b) y.sd).1 = lx := by rw [← HX.out]; exact hlx
      clear hk hlx
      obtain ⟨hcq, hfq, hRq⟩ := HI.out.cellq HQQ.out.2
      obtain ⟨lq, hlq⟩ : ∃ l, (if q = 0 then y.l0 else y.l1) = l := ⟨_, rfl⟩
      have HLQ : Aside0 (lq.length ≤ 16 ∧ ∀ x ∈ lq, NoisePlain.I32 x) := ⟨by
       rw [← hlq]
       split
       ·exact ⟨HFY.out.n0, HFY.out.w0⟩
       ·exact ⟨HFY.out.n1, HFY.out.w1⟩⟩
      rw [hlq] at hRq HX hlx2
      obtain ⟨Aq, cq, hvq, hcq2, hCq⟩ := R_C hRq rfl
      rw [hvq] at hcq
      have HCQ := Aside0.mk hCq
      have HCQ2 := Aside0.mk hcq2
      have HLX := Aside0.mk hlx2
      clear hfq hRq hlq hvq hCq hcq2 hlx2
      have j1 : (0 : Int) ≤ (bfN b : Int) := by omega
      have j6 : (bfN b : Int) ≤ 32 := by omega
      have j4 : ¬ (32 = bfN b) := by omega
      go_wp2_with (first
       | (go_at_call 16; (with_reducible refine (fold_R lq lq.length rfl (by have := HLQ.out.1; omega) HLQ.out.2 (bw b) (by have := bfN_in HBB.out.2.1; omega) y.sd Aq cq _ HCQ.out HCQ2.out).mono ?_); rintro e w11 ⟨v, rfl, hv, hb11⟩; have hHeld := HI.out.below hb11; rw [HLX.out] at hv; have hv3 := Kd.R_lower hv HI.out.b.size; obtain ⟨Ax, cx, rfl, hcx, hCx⟩ := R_C hv3 HXL.out.1; clear hcq HI hv HCQ; have hHH := Aside0.mk hHeld; obtain ⟨hcs, hfs, _⟩ := hHeld.cellq HQQ.out.2; have HV3 := Aside0.mk hv3; clear hHeld hv3 hcx hCx))
      have HI16 := Aside0.mk (hHH.out.putq H3.out HQQ.out.2 HV3.out)
      have HR16 := Aside0.mk (Kd.R_set HV3.out hHH.out.sh (by simp [Kd.int, Kd.scalar]) q (.slice Ax (bw b) cx))
      clear hHH HV3 hcs hfs
      obtain ⟨wS, hwS⟩ : ∃ x, w11.setCell ⟨w.heap.size + 1 + 1 + 1 + 1, q, none⟩ (.slice Ax (bw b) cx) = x := ⟨_, rfl⟩
      rw [hwS] at HI16 HR16 ⊢
      clear hwS
      refine wp_region_any (by kernel_rfl) ?_
      change wpAny _ _ _ _ _ _ _ (World.drew _)
      refine zT (v := ?_) 0 rfl ?h ?_
      case h => (intro w1; go_simp; (try with_reducible rfl))
      (try simp only [Act.put, zA1, zA2, zA3])
      refine zT (v := ?_) 1 rfl ?h ?_
      case h => (intro w1; go_simp; (try with_reducible rfl))
      (try simp only [Act.put, zA1, zA2, zA3])
      refine zT (v := ?_) 2 rfl ?h ?_
      case h => (intro w1; go_simp; (try with_reducible rfl))
      (try simp only [Act.put, zA1, zA2, zA3])
      refine zT (v := ?_) 3 rfl ?h ?_
      case h => (intro w1; go_simp; (try with_reducible rfl))
      (try simp only [Act.put, zA1, zA2, zA3])
      refine zT (v := ?_) 4 rfl ?h ?_
      case h => (intro w1; go_simp; (try with_reducible rfl))
      (try simp only [Act.put, zA1, zA2, zA3])
      refine zT (v := ?_) 5 rfl ?h ?_
      case h => (intro w1; go_simp; (try with_reducible rfl))
      (try simp only [Act.put, zA1, zA2, zA3])
      refine zT (v := ?_) 6 rfl ?h ?_
      case h => (intro w1; go_simp; (try with_reducible rfl))
      (try simp only [Act.put, zA1, zA2, zA3])
      have HI17 := HI16.out.below (drew_self _)
      have HR17 := Kd.R_below HR16.out (drew_self _)
      clear HI16 HR16
      refine zO 7 rfl fun K hK => ?_
      refine goes_ (N := some 71) Tryd.func62 (by kernel_rfl) rfl #[.pointer (some ⟨w.heap.size + 1, 0, none⟩), .int .i64 q, .int .i64 b] (by rfl) rfl rfl (by first | rfl | (simp only [List.map_toArray, List.map_cons, List.map_nil]; rfl)) ?_
      (with_reducible refine (loud_call f HFL.out (w.heap.size + 1) HQQ.out.2 HBB.out.2.1 _ HI17.fr).mono ?_); rintro e w12 ⟨rfl, hb12⟩
      refine ⟨_, rfl, ?_⟩
      refine hK _ _ ?_
      clear hK K
      (try simp only [Act.put, zA1, zA2, zA3])
      have hxw : ∀ x ∈ lx, ShapePlain.I32 x := fun x hx => HXL.out.2 x hx
      have HI18 := HI17.below hb12
      have HR18 := R_C2 (Kd.R_below HR17 hb12) HXL.out.1
      clear HI17 HR17 hb12
      refine zO 8 rfl fun K hK => ?_
      refine goes_ (N := some 72) Tryd.func11 (by kernel_rfl) rfl #[.slice Ax (bw b) cx, .int .i64 (lo f q b)] (by rfl) rfl rfl (by first | rfl | (simp only [List.map_toArray, List.map_cons, List.map_nil]; rfl)) ?_
      (with_reducible refine (Shape.scale_read (lo f q b) lx (bw b) HXL.out.1 (by have := bfN_in HBB.out.2.1; omega) hxw Ax cx _ HR18.2 HR18.1 HI18.lp).mono ?_); rintro e w13 ⟨Ay, cy, rfl, hCy, hcy, hb13⟩
      refine ⟨_, rfl, ?_⟩
      refine hK _ _ ?_
      clear hK K
      (try simp only [Act.put, zA1, zA2, zA3])
      have HI19 := HI18.below hb13
      obtain ⟨ad, hA, hcell⟩ := hCy.2.2 (by have := bfN_in HBB.out.2.1; omega)
      subst hA
      clear HI18 HR18 hb13 hCy
      have hyl : (sc (lo f q b) lx).length = bw b := by rw [sc_len]; exact HXL.out.1
      refine zO 9 rfl fun K hK => ?_
      refine step_copy_own rfl (.tmp 67) (.tmp 72) 22 22 rfl 21 Tryd.underlying22 (by kernel_rfl) (w.heap.size + 1 + 1 + 1) (q * 32 + bfN b) (32 - bfN b) (32 - bfN b) ad (bw b) cy rfl rfl (rowI y.o) 66 HI19.out ((sc (lo f q b) lx).map (Value.int .i32)) (by rw [List.length_map, hyl]; have := bfN_in HBB.out.2.1; exact (Nat.min_eq_left (by omega)).symm) (src_at hcell) (by rw [List.length_map, hyl, rowI_sz, HI19.ol]; have := bfN_in HBB.out.2.1; have := HQQ.out.2; omega) (by intro v hv; obtain ⟨x, _, rfl⟩ := List.mem_map.1 hv; rfl) ?_
      rw [spl_row]
      refine hK _ _ ?_
      clear hK K
      (try simp only [Act.put, zA1, zA2, zA3])
      refine wpAny_done (by kernel_rfl) ?_ _
      have HI20 := Aside0.mk (HI19.row H3.out (O' := spl y.o (q * 32 + bfN b) (sc (lo f q b) lx)) (by rw [spl_len (by rw [hyl, HI19.ol]; have := bfN_in HBB.out.2.1; have := HQQ.out.2; omega)]; exact HI19.ol))
      clear HI19 hcell
      go_wp2
      go_roundw
      case rel =>
       have hst : spRow f b (q + 1) z = spStep f b q y := by show spStep f b q (spRow f b q z) = _; rw [HY.out]
       have hsd : Value.int .u32 (shp f q b y).2 = Value.int .u32 (spRow f b (q + 1) z).sd := by rw [hst]; rfl
       have hsd2 := hsd
       rw [HX.out] at hsd2
       exact ⟨q + 1, _, _, HQQ.out.1, hsd2, congrArg (Value.int .i64) (by omega), ⟨by rw [hst]; unfold spStep; rw [show (shp f q b y).1 = lx from by rw [HX.out]; exact HLX.out]; exact HI20.out⟩⟩
      case measure => exact meas_q HQQ.out.1
    ·obtain rfl : q = c := by omega
     clear ht hq
     have hst : spAll f q (b + 1) (sp0 sd) = spRow f b q z := by show spRow f b q (spAll f q b (sp0 sd)) = _; rw [HZ.out]
     rw [← hst] at HI
     have hsd : Value.int .u32 (spRow f b q z).sd = Value.int .u32 (spAll f q (b + 1) (sp0 sd)).sd := by rw [hst]
     have HSD := Aside0.mk hsd
     clear hst hsd
     go_wp2
     go_roundw
     case rel => repeat (first | exact ⟨⟨b + 1, v0, v1, HBB.out.1, HSD.out, congrArg (Value.int .i64) (by omega), HI⟩, rfl⟩ | exact ⟨b + 1, v0, v1, HBB.out.1, HSD.out, congrArg (Value.int .i64) (by omega), HI⟩ | apply Exists.intro)
     case measure => exact meas_b HBB.out.1
  ·obtain rfl : b = s + 3 := by omega
   have d1 : decide ((s : Int) + 3 < (s : Int) + 3) = false := decide_eq_false (by omega)
   clear ht hb
   obtain ⟨Z, hz, hrs⟩ := HI.out.rs
   have HRS := Aside0.mk hrs
   have HZL := Aside0.mk hz
   have HOL := Aside0.mk HI.out.ol
   clear hz hrs
   go_wp2_with (first
    | (refine wpList_load_row rfl 66 (.tmp 8) rfl (w.heap.size + 1 + 1 + 1) rfl 66 (rowI (spAll f c (s + 3) (sp0 sd)).o) (0, 0) _ HI.out.out Tryd.underlying66 rfl (by rw [rowI_sz, HOL.out]; kernel_rfl) ?_)
    | (refine wpList_store_row rfl 66 (.tmp 6) (.tmp 76) rfl (w.heap.size + 1 + 1) (rowI (spAll f c (s + 3) (sp0 sd)).o) rfl rfl 66 _ HRS.out (by rw [rowI_sz, HOL.out]; kernel_rfl) (by rw [rowI_sz, rowI_sz, HOL.out, HZL.out]) (rowI_one _) ?_))
   refine bodyPost_ret (results_cell_tmp rfl _ _ (w.heap.size + 1 + 1) 66 _ _ _ _ rfl (setRow_heap _ _ _ _ _ _ HRS.out) Tryd.underlying66 rfl (by rw [rowI_sz, HOL.out]; kernel_rfl) rfl) rfl ?_
   exact ⟨rfl, below_setRow HI.out.b (by omega) _⟩
end Go.Proofs.YtjpnbdofbkoddaaDoor.Sh
