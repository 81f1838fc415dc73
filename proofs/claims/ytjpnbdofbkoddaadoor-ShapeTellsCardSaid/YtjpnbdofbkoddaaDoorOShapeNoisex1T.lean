import Derived.Test.YtjpnbdofbkoddaaDoorOShapeNoisex0T
import Derived.Test.YtjpnbdofbkoddaaDoorLen64T
import Derived.LoopTactic
set_option linter.unusedVariables false
set_option linter.unusedSimpArgs false
namespace Go.Proofs.YtjpnbdofbkoddaaDoor.OShapeNoise
open Go.RowKit Go.Proofs.YtjpnbdofbkoddaaDoorW.PrintWords Go.Proofs.YtjpnbdofbkoddaaDoorW.PrintLast Go.Proofs.YtjpnbdofbkoddaaDoorW.PrintMore
attribute [local go_sem] max2_int min2_int max_two min_two max_three min_three max_four min_four
def yv (x : Int) : Int := mn (mx x (-134217728)) 134217728
def nsum : List Int → Int → Int
 | [], s => s
 | x :: r, s => nsum r (IntKind.u64.wrap (s + IntKind.u64.wrap (wrap64 (yv x * yv x))))
theorem nrd_drop {xs : List Int} {i : Nat} (h : i < xs.length) : xs.drop i = rd xs i :: xs.drop (i + 1) := by
 rw [List.drop_eq_getElem_cons h]
 congr 1
 unfold rd
 rw [Int.toNat_natCast, List.getD_eq_getElem?_getD, List.getElem?_eq_getElem h]; rfl
def fix_Lcg.f (a0 : Int) : Option (Int) := some ((((a0 * 1664525) % 4294967296) + 1013904223) % 4294967296)
set_option maxHeartbeats 8000000 in
set_option maxRecDepth 100000 in
theorem fix_Lcg.calls (a0 : Int) (r : Int) (w : World) (h : fix_Lcg.f a0 = some r) :
 Calls Tryd.prog 40 #[.int .u32 a0] w fun e w' => e = .returned (.int .u32 r) ∧ Drawn0 w w' := by
 have H : (some ((((a0 * 1664525) % 4294967296) + 1013904223) % 4294967296)) = some r := h
 clear h
 obtain rfl := Option.some.inj H
 go_enter Tryd.func40, Tryd.ntmps40
 go_wp2
 go_ret
 exact ⟨by first | rfl | (simp; done) | (simp [*]; done), by repeat (first | exact Drawn0.refl _ | apply Drawn0.step)⟩
def shape_chance.f (a0 : Int) : Option (Int) := some (wrap32 (((wrap32 (a0)) / 268435456) * 1024))
set_option maxHeartbeats 8000000 in
set_option maxRecDepth 100000 in
theorem shape_chance.calls (a0 : Int) (r : Int) (w : World) (h : shape_chance.f a0 = some r) :
 Calls Tryd.prog 41 #[.int .u32 a0] w fun e w' => e = .returned (.int .i32 r) ∧ Drawn0 w w' := by
 have H : (some (wrap32 (((wrap32 (a0)) / 268435456) * 1024))) = some r := h
 clear h
 obtain rfl := Option.some.inj H
 go_enter Tryd.func41, Tryd.ntmps41
 go_wp2
 go_ret
 exact ⟨by first | rfl | (simp; done) | (simp [*]; done), by repeat (first | exact Drawn0.refl _ | apply Drawn0.step)⟩
end Go.Proofs.YtjpnbdofbkoddaaDoor.OShapeNoise
