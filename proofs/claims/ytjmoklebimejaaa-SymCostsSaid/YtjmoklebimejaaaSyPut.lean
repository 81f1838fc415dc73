import Derived.Test.YtjmoklebimejaaaWrDone
import Derived.Test.YtjmoklebimejaaaSyPlain
import Derived.Deep.RegionWith
namespace Go.Proofs.Ytjmoklebimejaaa.SyWalk
open Go.RowKit Go.Proofs.YtjmoklebimejaaaW.PrintWords Go.Proofs.YtjmoklebimejaaaW.PrintLast Go.Proofs.YtjmoklebimejaaaW.PrintMore
open Go.Proofs.Ytjmoklebimejaaa.Wr (St dig crow)
attribute [local go_sem] max2_int min2_int max_two min_two max_three min_three max_four min_four   -- for this text's walks alone
open Go.Proofs.Ytjmoklebimejaaa.WrWalk Go.Proofs.Ytjmoklebimejaaa.Sy Go.Proofs.Ytjmoklebimejaaa.OSymCosts
open Go.Proofs.Ytjmoklebimejaaa.Pack (bitsOf bitsOf_len)
set_option linter.unusedVariables false
set_option linter.unusedSimpArgs false
theorem at_below {ok : Nat → Prop} {w w1 : World} {g : Nat} {sz : Int} {s : St} {R : List Bool} (H : WrAt ok w g sz s R) (hb : Below w.heap.size w w1) : WrAt ok w1 g sz s R := WrB.below H hb
theorem at_drew {ok : Nat → Prop} {w : World} {g : Nat} {sz : Int} {s : St} {R : List Bool} (H : WrAt ok w g sz s R) : WrAt ok w.drew g sz s R := WrB.drew H
theorem raw_at (ok : Nat → Prop) (g : Nat) (sz x n : Int) (s : St) (R : List Bool) (w : World) (hx0 : 0 ≤ x) (hx1 : x < 4294967296) (hR : R.length ≤ 50000) (hfr : ∀ k, w.heap.size ≤ k → ok k) (H : WrAt ok w g sz s R) :
    Calls Try.prog 35 #[.pointer (some ⟨g, 0, none⟩), .int .u32 x, .int .i64 n] w fun e w' => e = .returned (.int .i64 (if Rw x n then 0 else 1)) ∧ WrAt ok w' g sz s (R ++ rawN x n) ∧ Foot ok w w' := raw_any ok g sz _ _ x n _ R w hx0 hx1 hR hfr H
theorem meth_put (a : Addr) (w : World) : (method 178 25 (.pointer (some a)) "Put").run Try.prog w = .ok (34, .pointer (some a)) w := by kernel_rfl
theorem meth_raw (a : Addr) (w : World) : (method 178 25 (.pointer (some a)) "Raw").run Try.prog w = .ok (35, .pointer (some a)) w := by kernel_rfl
set_option maxHeartbeats 1000000 in
theorem put_yes (ok : Nat → Prop) (g k : Nat) (hk : k ≤ 16) (v n h A A1 v64 lo sz : Int) (s : St) (R : List Bool) (w : World) (hfr : ∀ k, w.heap.size ≤ k → ok k) (H : WrAt ok w g sz s R) (hs : Wr.Fair s 65537) (hm : s.m ≤ 900) (hR : R.length ≤ 50000) (hA : v / 2 ^ k = A) (hA1 : IntKind.i64.wrap (A + 1) = A1) (hv : IntKind.u64.wrap v = v64) (hl : IntKind.u32.wrap lo = lo) (hok : Rd.ok A A1 h) (hrw : Rw lo (k : Int)) (hlo : 0 ≤ lo ∧ lo < 4294967296) (d1 : decide (n < 1) = false) (d2 : decide (16777216 < n) = false) (d3 : decide (v < 0) = false) (d4 : decide (n ≤ v) = false)
    (hp : ∀ w, Calls Try.prog 11 #[.int .i64 n] w fun e w' => e = .returned (.tuple #[.int .i64 h, .int .i64 (k : Int)]) ∧ Below w.heap.size w w')
    (hq : ∀ w, Calls Try.prog 12 #[.int .u64 v64, .int .i64 (k : Int)] w fun e w' => e = .returned (.int .u64 lo) ∧ Below w.heap.size w w') :
    Calls Try.prog 6 #[.pointer (some ⟨g, 0, none⟩), .int .i64 v, .int .i64 n] w fun e w' => e = .returned (.int .i64 0) ∧ WrAt ok w' g sz (Wr.put s A A1 h) (R ++ rawN lo (k : Int)) ∧ Foot ok w w' := by
  have HP := Aside0.mk hp
  have HQ := Aside0.mk hq
  clear hp hq
  have HH := Aside0.mk (p := WrAt ok w g sz s R) H
  clear H
  have HO := Aside0.mk hok
  have HR := Aside0.mk hrw
  clear hok hrw
  have HF := Aside0.mk (Foot.refl ok w)
  go_enter Try.func6, Try.ntmps6
  go_wp2_with (go_at_call 11; (with_reducible refine (HP.out _).mono ?_); rintro e w1 ⟨rfl, hb⟩; have HB := Aside0.mk hb; clear hb; have HF1 := Aside0.mk (HF.out.step HB.out); clear HF; have HF := HF1; clear HF1; have HH1 := Aside0.mk (at_below HH.out HB.out); clear HH HB; have HH := HH1; clear HH1)
  have M1 := meth_put
  have M2 := meth_raw
  go_region_with (first
    | (go_at_call 34; (with_reducible refine (put_any ok g sz A A1 h s R _ hs hm (fun k hk => hfr k (Nat.le_trans (HF.out.drew).b.size hk)) (at_drew HH.out)).mono ?_); rintro e w2 ⟨he, hw, hf⟩; rw [if_pos HO.out] at he; subst he; have HH2 := Aside0.mk hw; have HF2 := Aside0.mk ((HF.out.drew).trans hf); clear hw hf HH HF; have HH := HH2; have HF := HF2; clear HH2 HF2))
  go_wp2_with (first
    | (go_at_call 12; (with_reducible refine (HQ.out _).mono ?_); rintro e w3 ⟨rfl, hb⟩; have HB := Aside0.mk hb; clear hb; have HF1 := Aside0.mk (HF.out.step HB.out); clear HF; have HF := HF1; clear HF1; have HH1 := Aside0.mk (at_below HH.out HB.out); clear HH HB; have HH := HH1; clear HH1)
    | (go_at_call 35; (with_reducible refine (raw_at ok g sz lo (k : Int) _ R _ hlo.1 hlo.2 hR (fun k hk => hfr k (Nat.le_trans HF.out.b.size hk)) HH.out).mono ?_); rintro e w4 ⟨he, hw, hf⟩; rw [if_pos HR.out] at he; subst he; have HH2 := Aside0.mk hw; have HF2 := Aside0.mk ((HF.out).trans hf); clear hw hf HH HF; have HH := HH2; have HF := HF2; clear HH2 HF2))
  go_ret
  exact ⟨rfl, HH.out, HF.out⟩
theorem uput_no1 (g : Nat) (v n : Int) (w : World) (d1 : decide (n < 1) = true) :
    Calls Try.prog 6 #[.pointer (some ⟨g, 0, none⟩), .int .i64 v, .int .i64 n] w fun e w' => e = .returned (.int .i64 1) ∧ Below w.heap.size w w' := by
  have HB := Aside0.mk (Below.refl w.heap.size w)
  go_enter Try.func6, Try.ntmps6
  go_wp2
  go_ret
  exact ⟨rfl, (by repeat (first | exact HB.out | apply below_drew1 | apply pw_below_drewN))⟩
theorem uput_no2 (g : Nat) (v n : Int) (w : World) (d1 : decide (n < 1) = false) (d2 : decide (16777216 < n) = true) :
    Calls Try.prog 6 #[.pointer (some ⟨g, 0, none⟩), .int .i64 v, .int .i64 n] w fun e w' => e = .returned (.int .i64 1) ∧ Below w.heap.size w w' := by
  have HB := Aside0.mk (Below.refl w.heap.size w)
  go_enter Try.func6, Try.ntmps6
  go_wp2
  go_ret
  exact ⟨rfl, (by repeat (first | exact HB.out | apply below_drew1 | apply pw_below_drewN))⟩
theorem uput_no3 (g : Nat) (v n : Int) (w : World) (d1 : decide (n < 1) = false) (d2 : decide (16777216 < n) = false) (d3 : decide (v < 0) = true) :
    Calls Try.prog 6 #[.pointer (some ⟨g, 0, none⟩), .int .i64 v, .int .i64 n] w fun e w' => e = .returned (.int .i64 1) ∧ Below w.heap.size w w' := by
  have HB := Aside0.mk (Below.refl w.heap.size w)
  go_enter Try.func6, Try.ntmps6
  go_wp2
  go_ret
  exact ⟨rfl, (by repeat (first | exact HB.out | apply below_drew1 | apply pw_below_drewN))⟩
theorem uput_no4 (g : Nat) (v n : Int) (w : World) (d1 : decide (n < 1) = false) (d2 : decide (16777216 < n) = false) (d3 : decide (v < 0) = false) (d4 : decide (n ≤ v) = true) :
    Calls Try.prog 6 #[.pointer (some ⟨g, 0, none⟩), .int .i64 v, .int .i64 n] w fun e w' => e = .returned (.int .i64 1) ∧ Below w.heap.size w w' := by
  have HB := Aside0.mk (Below.refl w.heap.size w)
  go_enter Try.func6, Try.ntmps6
  go_wp2
  go_ret
  exact ⟨rfl, (by repeat (first | exact HB.out | apply below_drew1 | apply pw_below_drewN))⟩
theorem parts_call {n : Int} (h0 : 1 ≤ n) (h1 : n ≤ 16777216) (w : World) : Calls Try.prog 11 #[.int .i64 n] w fun e w' => e = .returned (.tuple #[.int .i64 (sh n), .int .i64 (sl n : Int)]) ∧ Below w.heap.size w w' :=
  (sym_parts.calls 1 n (sh n) (sl n : Int) w (parts_is h0 h1 1)).mono (by first | (rintro e w' ⟨he, hb⟩; exact ⟨he, hb⟩) | (rintro e w' ⟨he, nd, rfl⟩; exact ⟨he, by repeat (first | exact Below.refl _ _ | apply below_drew1 | apply pw_below_drewN)⟩))
theorem low_call {v : Int} (h0 : 0 ≤ v) (h1 : v < 4294967296) {k : Nat} (hk : k ≤ 16) (w : World) : Calls Try.prog 12 #[.int .u64 v, .int .i64 (k : Int)] w fun e w' => e = .returned (.int .u64 (v % 2 ^ k)) ∧ Below w.heap.size w w' :=
  fix_Low.calls v (k : Int) _ w (low_is h0 h1 hk)
/-- Whatever number is put. -/
theorem uput_any (ok : Nat → Prop) (g : Nat) (v n sz : Int) (s : St) (R : List Bool) (w : World) (hs : Wr.Fair s 65537) (hm : s.m ≤ 900) (hR : R.length ≤ 50000) (hfr : ∀ k, w.heap.size ≤ k → ok k) (H : WrAt ok w g sz s R) :
    Calls Try.prog 6 #[.pointer (some ⟨g, 0, none⟩), .int .i64 v, .int .i64 n] w fun e w' => e = .returned (.int .i64 (if okU v n then 0 else 1)) ∧ WrAt ok w' g sz (uput s v n) (R ++ uraw v n) ∧ Foot ok w w' := by
  by_cases h : okU v n
  · have h' := h
    obtain ⟨b1, b2, b3, b4, b5, b6, b7⟩ := okU_is h
    obtain ⟨h0, h1, h2, h3⟩ := h'
    unfold uput uraw
    rw [if_pos h, if_pos h, if_pos h]
    exact put_yes ok g (sl n) b3 v n (sh n) (v / 2 ^ sl n) (v / 2 ^ sl n + 1) v (v % 2 ^ sl n) sz s R w hfr H hs hm hR rfl (by rw [i64_w]; exact w64n (by omega) (by omega)) (u64s h2 (by omega)) (u32s b4 (by omega)) b1 b2 ⟨b4, by omega⟩ (decide_eq_false (by omega)) (decide_eq_false (by omega)) (decide_eq_false (by omega)) (decide_eq_false (by omega)) (parts_call h0 h1) (low_call h2 (by omega) b3)
  · unfold uput uraw
    rw [if_neg h, if_neg h, if_neg h, List.append_nil]
    have fin : ∀ (e : Ending) (w' : World), (e = .returned (.int .i64 1) ∧ Below w.heap.size w w') → e = .returned (.int .i64 1) ∧ WrAt ok w' g sz s R ∧ Foot ok w w' := fun e w' hh => ⟨hh.1, at_below H hh.2, Foot.of_below hh.2⟩
    by_cases c1 : n < 1
    · exact (uput_no1 g v n w (decide_eq_true c1)).mono fin
    by_cases c2 : (16777216 : Int) < n
    · exact (uput_no2 g v n w (decide_eq_false c1) (decide_eq_true c2)).mono fin
    by_cases c3 : v < 0
    · exact (uput_no3 g v n w (decide_eq_false c1) (decide_eq_false c2) (decide_eq_true c3)).mono fin
    · exact (uput_no4 g v n w (decide_eq_false c1) (decide_eq_false c2) (decide_eq_false c3) (decide_eq_true (by unfold okU at h; omega))).mono fin
theorem uput_fair {s : St} (hs : Wr.Fair s 65537) (v n : Int) : Wr.Fair (uput s v n) 65537 := by unfold uput; split; exact Wr.put_fair hs _ _ _; exact hs
theorem uput_m (s : St) (v n : Int) : s.m ≤ (uput s v n).m ∧ (uput s v n).m ≤ s.m + 2 := by unfold uput; split; exact Wr.put_m s _ _ _; omega
theorem uraw_len (v n : Int) : (uraw v n).length ≤ 16 := by
  unfold uraw rawN
  split
  · rename_i h
    obtain ⟨_, b2, b3, _⟩ := okU_is h
    rw [if_pos b2, bitsOf_len, Int.toNat_natCast]; exact b3
  · simp
end Go.Proofs.Ytjmoklebimejaaa.SyWalk
