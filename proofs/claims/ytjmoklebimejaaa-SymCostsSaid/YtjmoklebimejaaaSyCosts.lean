import Derived.Test.YtjmoklebimejaaaSyAwake
namespace Go.Proofs.Ytjmoklebimejaaa.SyWalk
open Go.RowKit Go.Proofs.YtjmoklebimejaaaW.PrintWords Go.Proofs.YtjmoklebimejaaaW.PrintLast Go.Proofs.YtjmoklebimejaaaW.PrintMore
open Go.Proofs.Ytjmoklebimejaaa.WrWalk Go.Proofs.Ytjmoklebimejaaa.Sy Go.Proofs.Ytjmoklebimejaaa.OSymCosts
open Go.Proofs.Ytjmoklebimejaaa.Wr (St)
open Go.Proofs.Ytjmoklebimejaaa.Pack (bitsOf bitsOf_len)
open Go.Proofs.Ytjmoklebimejaaa.WrLaw
set_option linter.unusedVariables false
set_option linter.unusedSimpArgs false
/-- A small total takes one byte. -/
theorem put_m1 {s : St} (hs : Wr.Fair s 65537) {a b n : Int} (h : Rd.ok a b n) (hn : n ≤ 128) : (Wr.put s a b n).m ≤ s.m + 1 := by
  have hp := Rd.part_is (by have := hs.g0; omega) hs.g1 h
  have h0 := hs.g0
  have hpg : 512 ≤ s.g / n := by
    obtain ⟨h1, h2, h3, h4⟩ := h
    have hn0 : 0 < n := by omega
    have : 512 * n ≤ s.g := by omega
    exact (Int.le_ediv_iff_mul_le hn0).mpr this
  have hc : 512 ≤ (Wr.cut s a b n).g := by
    show 512 ≤ Rd.rg s.g a b n
    unfold Rd.rg
    have := hp.o1
    have := hp.s0
    split <;> omega
  have hsg : 65536 < (Wr.step (Wr.cut s a b n)).g := by
    unfold Wr.step
    split
    · show 65536 < (Wr.cut s a b n).g * 256
      omega
    · omega
  unfold Wr.put
  rw [if_pos h, step_id hsg]
  exact (Wr.step_m _).2
theorem bits_small {n : Int} (h0 : 1 ≤ n) (hn : n ≤ 1048576) (h1 : Lib.bitLen (n - 1).toNat ≤ 7) : n ≤ 128 := by
  refine Int.not_lt.mp fun hc => ?_
  obtain ⟨a, _⟩ := bitLen_two 64 (n - 1).toNat (Nat.lt_of_lt_of_le (show (n - 1).toNat < 16777216 by omega) (by decide))
  change (n - 1).toNat < 2 ^ Lib.bitLen (n - 1).toNat at a
  have : 2 ^ Lib.bitLen (n - 1).toNat ≤ 2 ^ 7 := Nat.pow_le_pow_right (by decide) h1
  have e : 2 ^ 7 = 128 := by decide
  omega
/-- What a number costs. -/
theorem cost_in {s : St} (hs : Wr.Fair s 65537) {v n : Int} (h : okU v n) (hn : n ≤ 1048576) : s.m ≤ (uput s v n).m ∧ 8 * ((uput s v n).m : Int) - 8 * s.m + (uraw v n).length ≤ Lib.bitLen (n - 1).toNat + 8 := by
  have hm := uput_m s v n
  obtain ⟨b1, b2, b3, _⟩ := okU_is h
  have hr : (uraw v n).length = sl n := by
    unfold uraw rawN
    rw [if_pos h, if_pos b2, bitsOf_len, Int.toNat_natCast]
  refine ⟨hm.1, ?_⟩
  rw [hr]
  obtain ⟨h0, h1, h2, h3⟩ := h
  by_cases hb : n ≤ 256
  · have e : sl n = 0 := by unfold sl; rw [if_pos hb]
    rw [e]
    by_cases hl : Lib.bitLen (n - 1).toNat ≤ 7
    · have h128 := bits_small h0 hn hl
      have e2 : sh n = n := by unfold sh; rw [if_pos hb]
      have := put_m1 hs (e2 ▸ b1) (by omega)
      have e3 : uput s v n = Wr.put s (v / 2 ^ sl n) (v / 2 ^ sl n + 1) n := by unfold uput; rw [if_pos ⟨h0, h1, h2, h3⟩, e2]
      rw [e3]
      omega
    · omega
  · obtain ⟨k, hk, hL, _⟩ := sl_big (n := n) (by omega) h1
    omega
theorem bitLen_zero : Lib.bitLen 0 = 0 := rfl
theorem bitLen_step {x : Nat} (h0 : 0 < x) (h1 : x < 4294967296) : Lib.bitLen x = Lib.bitLen (x / 2) + 1 := by
  rw [Lib.bitLen_half x (by omega) (Nat.lt_trans h1 (by decide))]
  omega
theorem bitLen_20 {x : Nat} (h : x < 1048576) : Lib.bitLen x ≤ 64 := by
  have : ∀ (f x : Nat), Lib.bitLenAux f x ≤ f := by
    intro f
    induction f with
    | zero => intro x; simp [Lib.bitLenAux]
    | succ f ih => intro x; unfold Lib.bitLenAux; split; omega; have := ih (x / 2); omega
  exact this 64 x
theorem ow_at (g : Nat) (s : St) (R : List Bool) : Ow (fun ok w => WrAt ok w g 1275 s R) := ow_wr g 1275 s R
theorem costs_long (a0 a1 : Int) (A1 : Option Addr) (n c1 : Nat) (w : World) (hd2 : decide ((20 : Int) < (n : Int)) = true) :
    Calls Try.prog 3 #[.int .u32 a0, .int .u32 a1, .slice A1 n c1] w fun e w' => e = .returned (.bool true) ∧ Below w.heap.size w w' := by
  have HB := Aside0.mk (Below.refl w.heap.size w)
  go_enter Try.func3, Try.ntmps3
  go_wp2_with (first
    | (go_at_call 4; (with_reducible refine (SyWalk.awake_any _).mono ?_); rintro e wa ⟨rfl, hb⟩; have HB1 := Aside0.mk (below_step HB.out hb); clear HB hb; have HB := HB1; clear HB1))
  go_ret
  exact ⟨rfl, HB.out⟩
set_option maxHeartbeats 8000000 in
set_option maxRecDepth 100000 in
theorem costs_at (a0 a1 T V : Int) (hT : 1 ≤ T ∧ T ≤ 1048576) (hV : 0 ≤ V ∧ V < T) (hT0 : ¬ T = 0) (eT : wrap64 ((wrap64 a1).tmod 1048576 + 1) = T) (eV : (wrap64 a0).tmod T = V) (l : List S30) (n : Nat) (hn : l.length = n) (hn2 : n ≤ 20) (A1 : Option Addr) (c1 : Nat) (w : World) (hD : Kd.C k30 w A1 n l) :
    Calls Try.prog 3 #[.int .u32 a0, .int .u32 a1, .slice A1 n c1] w fun e w' => e = .returned (.bool true) ∧ Below w.heap.size w w' := by
  have HB := Aside0.mk (Below.refl w.heap.size w)
  have HD := Aside0.mk hD
  have HN := Aside0.mk hn
  have HT := Aside0.mk hT
  have HV := Aside0.mk hV
  have hd2 : decide ((20 : Int) < (n : Int)) = false := decide_eq_false (by omega)
  have CN : Aside0 (∀ w1, Calls Try.prog 5 #[.int .i64 1275] w1 fun e w' => ∃ g, e = .returned (.tuple #[.pointer (some ⟨g, 0, none⟩), .int .i64 0]) ∧ WrAt (fun k => w1.heap.size ≤ k) w' g 1275 Wr.new [] ∧ Below w1.heap.size w1 w') := ⟨fun w1 => new_wr2 1275 (by omega) w1⟩
  clear hD hn hT hV
  go_enter Try.func3, Try.ntmps3
  go_wp2_with (first
    | (go_at_call 4; (with_reducible refine (SyWalk.awake_any _).mono ?_); rintro e wa ⟨rfl, hb⟩; have HB1 := Aside0.mk (below_step HB.out hb); clear HB hb; have HB := HB1; clear HB1)
    | (go_at_call 5; (with_reducible refine (CN.out _).mono ?_); rintro e wx ⟨g, rfl, hI, hb⟩; have HS := Aside0.mk (Sep.one (below_step HB.out hb) (ow_at g Wr.new []) hI (fun k hk => Nat.le_trans HB.out.size hk)); clear HB hb hI))
  go_loopw [37] (fun i wr => ∃ (k : Nat) (s : St) (R : List Bool), k ≤ n ∧ i = .int .i64 k ∧ Aside0 (Sep w (fun ok w => WrAt ok w g 1275 s R) (fun _ _ => True) none wr) ∧ Aside0 (Wr.Fair s 65537 ∧ s.m ≤ 2 * k ∧ R.length ≤ 16 * k)) (fun i _ => (n - intOf i).toNat)
  case atStart => exact ⟨0, Wr.new, [], by omega, rfl, HS, ⟨Wr.new_fair, Nat.zero_le _, Nat.zero_le _⟩⟩
  case round =>
    obtain ⟨k, s, R, hk, rfl, HS2, HF⟩ := hrel
    clear HS
    have HS := HS2
    clear HS2
    by_cases ht : k < n
    · obtain ⟨ad, hA, hc0, hc1⟩ := at_T30 (Kd.C_below HD.out HS.out.hb) (k : Int) (by omega) (by omega)
      rw [Int.toNat_natCast] at hc0 hc1
      obtain ⟨⟨X, Y⟩, ho⟩ : ∃ o, rd_T30 l k = o := ⟨_, rfl⟩
      rw [ho] at hc0 hc1
      simp only at hc0 hc1
      clear ho
      subst hA
      have HS' : Aside0 (Wr.Fair (uput s Y X) 65537 ∧ (uput s Y X).m ≤ 2 * (k + 1) ∧ (R ++ uraw Y X).length ≤ 16 * (k + 1)) := ⟨by
        have := (uput_m s Y X).2
        have := uraw_len Y X
        obtain ⟨f1, f2, f3⟩ := HF.out
        exact ⟨uput_fair f1 _ _, by omega, by rw [List.length_append]; omega⟩⟩
      have CP : Aside0 (∀ wz zb, Sep w (fun ok w => WrAt ok w g 1275 s R) (fun _ _ => True) zb wz → Calls Try.prog 6 #[.pointer (some ⟨g, 0, none⟩), .int .i64 Y, .int .i64 X] wz fun e w' => e = .returned (.int .i64 (if okU Y X then 0 else 1)) ∧ Sep w (fun ok w => WrAt ok w g 1275 (uput s Y X) (R ++ uraw Y X)) (fun _ _ => True) zb w') := ⟨fun wz zb S => Sep.call1 S (ow_at g s R) (ow_at g _ _) ow_true (fun ok hfr H => uput_any ok g Y X 1275 s R wz HF.out.1 (by have := HF.out.2; omega) (by have := HF.out.2; omega) hfr H)⟩
      go_wp2_with (first
        | (go_at_call 6; (with_reducible refine (CP.out _ _ (HS.out.box (ow_at g s R) ow_true _)).mono ?_); rintro e w1 ⟨rfl, hT⟩; have HS3 := Aside0.mk hT; clear hT HS; have HS := HS3; clear HS3))
      exact ⟨⟨k + 1, _, _, by omega, congrArg (Value.int .i64) (by omega), ⟨HS.out.unbox⟩, HS'⟩, by simp [intOf]; omega⟩
    · have hF := HF.out
      obtain ⟨L0, hL0⟩ : ∃ L, 8 * (1275 - 3 - (s.m : Int)) - (R.length : Int) = L := ⟨_, rfl⟩
      obtain ⟨s', hs'⟩ : ∃ s', uput s V T = s' := ⟨_, rfl⟩
      obtain ⟨R', hR'⟩ : ∃ R', R ++ uraw V T = R' := ⟨_, rfl⟩
      obtain ⟨L1, hL1⟩ : ∃ L, 8 * (1275 - 3 - (s'.m : Int)) - (R'.length : Int) = L := ⟨_, rfl⟩
      have hok : okU V T := ⟨HT.out.1, by have := HT.out.2; omega, HV.out.1, HV.out.2⟩
      obtain ⟨Lb, hLb⟩ : ∃ L, Lib.bitLen (T - 1).toNat = L := ⟨_, rfl⟩
      have hlb : Lb ≤ 64 := by rw [← hLb]; exact bitLen_20 (by have := HT.out; omega)
      have hcost : 0 ≤ L0 - L1 ∧ L0 - L1 ≤ Lb + 8 ∧ -100000 ≤ L0 - L1 := by
        obtain ⟨c1, c2⟩ := cost_in hF.1 hok HT.out.2
        rw [hs', hLb] at c2
        rw [hs'] at c1
        have e : (R'.length : Int) = R.length + (uraw V T).length := by rw [← hR', List.length_append]; omega
        omega
      have hm' : s'.m ≤ 10000 ∧ R'.length ≤ 100000 := by
        have hq := (uput_m s V T).2
        have := uraw_len V T
        rw [hs'] at hq
        have e : R'.length = R.length + (uraw V T).length := by rw [← hR', List.length_append]
        omega
      have CL : Aside0 (∀ wz, Sep w (fun ok w => WrAt ok w g 1275 s R) (fun _ _ => True) none wz → Calls Try.prog 7 #[.pointer (some ⟨g, 0, none⟩)] wz fun e w' => e = .returned (.int .i64 L0) ∧ Sep w (fun ok w => WrAt ok w g 1275 s R) (fun _ _ => True) none w') := ⟨fun wz S => Sep.call1 S (ow_at g s R) (ow_at g s R) ow_true (fun ok hfr H => hL0 ▸ wr_left H (by omega) (by omega) (by omega))⟩
      have CM : Aside0 (∀ wz, Sep w (fun ok w => WrAt ok w g 1275 s' R') (fun _ _ => True) none wz → Calls Try.prog 7 #[.pointer (some ⟨g, 0, none⟩)] wz fun e w' => e = .returned (.int .i64 L1) ∧ Sep w (fun ok w => WrAt ok w g 1275 s' R') (fun _ _ => True) none w') := ⟨fun wz S => Sep.call1 S (ow_at g s' R') (ow_at g s' R') ow_true (fun ok hfr H => hL1 ▸ wr_left H (by omega) hm'.1 hm'.2)⟩
      have CP : Aside0 (∀ wz, Sep w (fun ok w => WrAt ok w g 1275 s R) (fun _ _ => True) none wz → Calls Try.prog 6 #[.pointer (some ⟨g, 0, none⟩), .int .i64 V, .int .i64 T] wz fun e w' => e = .returned (.int .i64 0) ∧ Sep w (fun ok w => WrAt ok w g 1275 s' R') (fun _ _ => True) none w') := ⟨fun wz S => Sep.call1 S (ow_at g s R) (ow_at g s' R') ow_true (fun ok hfr H => by
        have h := uput_any ok g V T 1275 s R wz hF.1 (by omega) (by omega) hfr H
        rw [if_pos hok, hs', hR'] at h
        exact h)⟩
      obtain ⟨X0, hX0⟩ : ∃ X : Nat, T - 1 = (X : Int) := ⟨(T - 1).toNat, by have := HT.out; omega⟩
      have eX : wrap64 (T - 1) = (X0 : Int) := by rw [sw64 (by have := HT.out; omega) (by have := HT.out; omega)]; exact hX0
      have HX0 : Aside0 (Lib.bitLen X0 = Lb ∧ X0 < 1048576) := ⟨by rw [hX0, Int.toNat_natCast] at hLb; exact hLb, by have := HT.out; omega⟩
      clear hX0 hL0 hL1 hs' hR' hok hLb hm' hF HF
      have hcA := Aside0.mk hcost
      have hlA := Aside0.mk hlb
      clear hcost hlb
      go_wp2_with (first
        | (go_at_call 7; (with_reducible refine (CL.out _ HS.out).mono ?_); rintro e w1 ⟨rfl, hT⟩; have HS3 := Aside0.mk hT; clear hT HS; have HS := HS3; clear HS3)
        | (go_at_call 6; (with_reducible refine (CP.out _ HS.out).mono ?_); rintro e w1 ⟨rfl, hT⟩; have HS3 := Aside0.mk hT; clear hT HS; have HS := HS3; clear HS3))
      have EX := Aside0.mk eX
      clear eT eV eX
      go_loopw [13, 14] (fun b x wr => ∃ (j X : Int), b = .int .i64 j ∧ x = .int .i64 X ∧ Aside0 ((Lib.bitLen X.toNat : Int) + j = Lb ∧ 0 ≤ X ∧ X < 1048576 ∧ 0 ≤ j) ∧ Aside0 (Sep w (fun ok w => WrAt ok w g 1275 s' R') (fun _ _ => True) none wr)) (fun b x _ => (intOf x).toNat)
      case atStart =>
        exact ⟨0, (X0 : Int), rfl, congrArg (Value.int .i64) EX.out, ⟨by have := HX0.out; rw [Int.toNat_natCast]; omega⟩, HS⟩
      case round =>
        obtain ⟨j, X, rfl, rfl, HX, HS2⟩ := hrel
        clear HS
        have HS := HS2
        clear HS2
        by_cases hx : X = 0
        · subst hx
          have hj : j = Lb := by have := HX.out.1; rw [Int.toNat_zero, bitLen_zero] at this; omega
          obtain ⟨D, hD⟩ : ∃ D, L0 - L1 = D := ⟨_, rfl⟩
          obtain ⟨j1, hj1⟩ : ∃ D, j + 1 = D := ⟨_, rfl⟩
          obtain ⟨j2, hj2⟩ : ∃ D, j1 + 7 = D := ⟨_, rfl⟩
          have e1 : wrap64 (L0 - L1) = D := by rw [← hD]; exact sw64 (by have := hcA.out; omega) (by have := hcA.out; have := hlA.out; omega)
          have e2 : wrap64 (j + 1) = j1 := by rw [← hj1]; exact sw64 (by have := hlA.out; omega) (by have := hlA.out; omega)
          have e3 : wrap64 (j1 + 7) = j2 := by rw [← hj2]; exact sw64 (by have := hlA.out; omega) (by have := hlA.out; omega)
          have d2 : decide (0 ≤ D) = true := decide_eq_true (by have := hcA.out; omega)
          have d3 : decide (D ≤ j2) = true := decide_eq_true (by have := hcA.out; omega)
          clear hj hD hj1 hj2
          go_wp2_with (first
            | (go_at_call 7; (with_reducible refine (CM.out _ HS.out).mono ?_); rintro e w1 ⟨rfl, hT⟩; have HS3 := Aside0.mk hT; clear hT HS; have HS := HS3; clear HS3))
          go_ret
          exact ⟨rfl, HS.out.hb⟩
        · have hX2 := HX.out
          have d1 : decide (0 < X) = true := decide_eq_true (by omega)
          have hstep := bitLen_step (x := X.toNat) (by omega) (by omega)
          obtain ⟨Y, hY⟩ : ∃ Y, X / 2 = Y := ⟨_, rfl⟩
          have hY2 : Y.toNat = X.toNat / 2 := by omega
          obtain ⟨j1, hj1⟩ : ∃ j1, j + 1 = j1 := ⟨_, rfl⟩
          have HXn : Aside0 (((Lib.bitLen Y.toNat : Int) + j1 = Lb ∧ 0 ≤ Y ∧ Y < 1048576 ∧ 0 ≤ j1) ∧ Y.toNat < X.toNat) := ⟨by rw [hY2]; omega, by omega⟩
          have e1 : wrap64 (X / 2) = Y := by rw [hY]; exact sw64 (by omega) (by omega)
          have e1b : wrap64 (X.tdiv 2) = Y := by rw [Int.tdiv_eq_ediv_of_nonneg hX2.2.1]; exact e1
          have e3 : wrap64 (j + 1) = j1 := by rw [hj1]; exact sw64 (by omega) (by have := hlA.out; omega)
          clear hx hX2 hstep hY hY2 hj1
          go_wp2
          refine ⟨⟨j1, Y, congrArg (Value.int .i64) e3, congrArg (Value.int .i64) e1b, ⟨HXn.out.1⟩, HS⟩, ?_⟩
          rw [e1b]
          exact HXn.out.2
theorem costs_row (a0 a1 : Int) (w0 : (Lit.int .u32 a0).wf = true) (w1 : (Lit.int .u32 a1).wf = true) (a2 : Option Addr) (len2 cap2 : Nat) (z2 : List (List Int)) (w : World) (w2 : StructRows.Rows [.i64, .i64] w a2 len2 cap2 z2) :
    Calls Try.prog 3 #[.int .u32 a0, .int .u32 a1, .slice a2 len2 cap2] w fun e w' => e = .returned (.bool true) ∧ Below w.heap.size w w' := by
  obtain ⟨hD, _, hop⟩ := ops30 w2
  by_cases hn : len2 ≤ 20
  · have h0 := wf_u32 w0
    have h1 := wf_u32 w1
    obtain ⟨T, hT⟩ : ∃ T, a1 % 1048576 + 1 = T := ⟨_, rfl⟩
    have hT2 : 1 ≤ T ∧ T ≤ 1048576 := by omega
    refine costs_at a0 a1 T (a0 % T) hT2 ⟨Int.emod_nonneg _ (by omega), Int.emod_lt_of_pos _ (by omega)⟩ (by omega) ?_ ?_ (z2.map to30) len2 hD.1 hn a2 cap2 w hD
    · rw [sw64 (x := a1) (by omega) (by omega), Int.tmod_eq_emod_of_nonneg h1.1, hT, sw64 (by omega) (by omega)]
    · rw [sw64 (x := a0) (by omega) (by omega), Int.tmod_eq_emod_of_nonneg h0.1]
  · exact costs_long _ _ _ _ _ _ (decide_eq_true (by omega))
end Go.Proofs.Ytjmoklebimejaaa.SyWalk
