import Derived.Test.YtjmoklebimejaaaSyPut
namespace Go.Proofs.Ytjmoklebimejaaa.SyWalk
open Go.RowKit Go.Proofs.YtjmoklebimejaaaW.PrintWords Go.Proofs.YtjmoklebimejaaaW.PrintLast Go.Proofs.YtjmoklebimejaaaW.PrintMore
open Go.Proofs.Ytjmoklebimejaaa.WrWalk Go.Proofs.Ytjmoklebimejaaa.Sy Go.Proofs.Ytjmoklebimejaaa.OSymCosts
set_option linter.unusedVariables false
set_option linter.unusedSimpArgs false
/-- How a reader keeps the world. -/
structure Keeps (T : World → World → Prop) : Prop where
  below : ∀ {w w' : World}, Below w.heap.size w w' → T w w'
  trans : ∀ {w w' w'' : World}, T w w' → T w' w'' → T w w''
/-- What stays under what touches nothing that was there. -/
abbrev Stays (P : World → Prop) : Prop := ∀ {w w' : World}, Below w.heap.size w w' → P w → P w'
theorem drew_self (w : World) : Below w.heap.size w w.drew := below_drew1 (Below.refl _ _)
/-- A number that is read: what was found, and whether it is one. -/
def uval (n v x : Int) : Int := v * 2 ^ sl n + x
def ures (n u : Int) : Int := min u (n - 1)
theorem rmeth_get (a : Addr) (w : World) : (method 178 39 (.pointer (some a)) "Get").run Try.prog w = .ok (37, .pointer (some a)) w := by kernel_rfl
theorem rmeth_take (a : Addr) (w : World) : (method 178 39 (.pointer (some a)) "Take").run Try.prog w = .ok (40, .pointer (some a)) w := by kernel_rfl
theorem rmeth_raw (a : Addr) (w : World) : (method 178 39 (.pointer (some a)) "Raw").run Try.prog w = .ok (39, .pointer (some a)) w := by kernel_rfl
set_option maxHeartbeats 1000000 in
theorem rone_any (g : Nat) (P0 P1 : World → Prop) (T : World → World → Prop) (hT : Keeps T) (s0 : Stays P0) (s1 : Stays P1) (v v1 n : Int) (hv1 : wrap64 (v + 1) = v1)
    (CG : ∀ w, P0 w → Calls Try.prog 37 #[.pointer (some ⟨g, 0, none⟩), .int .i64 n] w fun e w' => e = .returned (.int .i64 v) ∧ P0 w' ∧ T w w')
    (CT : ∀ w, P0 w → Calls Try.prog 40 #[.pointer (some ⟨g, 0, none⟩), .int .i64 v, .int .i64 v1, .int .i64 n] w fun e w' => e = .returned (.tuple #[]) ∧ P1 w' ∧ T w w') (w : World) (h : P0 w) :
    Calls Try.prog 13 #[.pointer (some ⟨g, 0, none⟩), .int .i64 n] w fun e w' => e = .returned (.int .i64 v) ∧ P1 w' ∧ T w w' := by
  have HG := Aside0.mk CG
  have HT := Aside0.mk CT
  clear CG CT
  have HP := Aside0.mk h
  clear h
  have HK := Aside0.mk (hT.below (Below.refl w.heap.size w))
  go_enter Try.func13, Try.ntmps13
  have M1 := rmeth_get
  have M2 := rmeth_take
  go_wp2_with (first
    | (go_at_call 37; (with_reducible refine (HG.out _ HP.out).mono ?_); rintro e w1 ⟨rfl, hp, ht⟩; have HP1 := Aside0.mk hp; have HK1 := Aside0.mk (hT.trans HK.out ht); clear HP HK hp ht; have HP := HP1; have HK := HK1; clear HP1 HK1)
    | (go_at_call 40; (with_reducible refine (HT.out _ HP.out).mono ?_); rintro e w1 ⟨rfl, hp, ht⟩; have HP1 := Aside0.mk hp; have HK1 := Aside0.mk (hT.trans HK.out ht); clear HP HK hp ht; have HP := HP1; have HK := HK1; clear HP1 HK1))
  go_ret
  exact ⟨rfl, HP.out, HK.out⟩
set_option maxHeartbeats 1000000 in
theorem ruint_walk (g k : Nat) (P0 P1 P2 : World → Prop) (T : World → World → Prop) (hT : Keeps T) (s0 : Stays P0) (s1 : Stays P1) (s2 : Stays P2) (n h v x A1 u : Int) (d1 : decide (n < 1) = false) (d2 : decide (16777216 < n) = false) (hk : k ≤ 16)
    (e1 : IntKind.i64.wrap (v * 2 ^ k) = A1) (e2 : IntKind.i64.wrap x = x) (e3 : bits .or .i64 A1 x = u) (e4 : wrap64 (n - 1) = n - 1)
    (CP : ∀ w, Calls Try.prog 11 #[.int .i64 n] w fun e w' => e = .returned (.tuple #[.int .i64 h, .int .i64 (k : Int)]) ∧ Below w.heap.size w w')
    (CO : ∀ w, P0 w → Calls Try.prog 13 #[.pointer (some ⟨g, 0, none⟩), .int .i64 h] w fun e w' => e = .returned (.int .i64 v) ∧ P1 w' ∧ T w w')
    (CR : ∀ w, P1 w → Calls Try.prog 39 #[.pointer (some ⟨g, 0, none⟩), .int .i64 (k : Int)] w fun e w' => e = .returned (.int .u32 x) ∧ P2 w' ∧ T w w') (w : World) (hp : P0 w) :
    Calls Try.prog 9 #[.pointer (some ⟨g, 0, none⟩), .int .i64 n] w fun e w' => e = .returned (.tuple #[.int .i64 (min u (n - 1)), .bool (decide (u < n))]) ∧ P2 w' ∧ T w w' := by
  have HC := Aside0.mk CP
  have HO := Aside0.mk CO
  have HR := Aside0.mk CR
  clear CP CO CR
  have HP := Aside0.mk hp
  clear hp
  have HK := Aside0.mk (hT.below (Below.refl w.heap.size w))
  go_enter Try.func9, Try.ntmps9
  have M1 := rmeth_raw
  go_wp2_with (first
    | (go_at_call 11; (with_reducible refine (HC.out _).mono ?_); rintro e w1 ⟨rfl, hb⟩; have HP1 := Aside0.mk (s0 hb HP.out); have HK1 := Aside0.mk (hT.trans HK.out (hT.below hb)); clear HP HK hb; have HP := HP1; have HK := HK1; clear HP1 HK1))
  go_region_with (first
    | (go_at_call 13; (with_reducible refine (HO.out _ (s0 (drew_self _) HP.out)).mono ?_); rintro e w2 ⟨rfl, hp, ht⟩; have HP1 := Aside0.mk hp; have HK1 := Aside0.mk (hT.trans (hT.trans HK.out (hT.below (drew_self _))) ht); clear HP HK hp ht; have HP := HP1; have HK := HK1; clear HP1 HK1)
    | (go_at_call 39; (with_reducible refine (HR.out _ HP.out).mono ?_); rintro e w3 ⟨rfl, hp, ht⟩; have HP1 := Aside0.mk hp; have HK1 := Aside0.mk (hT.trans HK.out ht); clear HP HK hp ht; have HP := HP1; have HK := HK1; clear HP1 HK1))
  all_goals (go_wp2; go_ret2; exact ⟨rfl, HP.out, HK.out⟩)
end Go.Proofs.Ytjmoklebimejaaa.SyWalk
