import Derived.Test.YtjmoklebimejaaaDoorRdP
import Derived.Test.YtjmoklebimejaaaDoorRdPlain
import Derived.LoopTactic
import Derived.Lib.SliceRun
import Derived.Deep.RegionHeld3
import Derived.WalkSpells
namespace Go.Proofs.YtjmoklebimejaaaDoor.RdWalk
open Go.RowKit Go.Proofs.YtjmoklebimejaaaDoorW.PrintWords Go.Proofs.YtjmoklebimejaaaDoorW.PrintLast Go.Proofs.YtjmoklebimejaaaDoorW.PrintMore
open Go.Proofs.YtjmoklebimejaaaDoor.Rd (St by_ Bytes)
attribute [local go_sem] max2_int min2_int max_two min_two max_three min_three max_four min_four   -- for this text's walks alone
set_option linter.unusedVariables false
set_option linter.unusedSimpArgs false
theorem infoE : (Tryd.prog.info? 5).map (fun i => (i.zero, i.size, i.bytes)) = some (some (.int .u8 0), 1, 1) := by kernel_rfl
set_option maxHeartbeats 2000000 in
set_option maxRecDepth 100000 in
theorem clone_some (xs : List Int) (ad : Addr) (c : Nat) (w : World) (hC : Kd.C (Kd.int .u8) w (some ad) xs.length xs) (hc : xs.length ≤ c) (hl : xs.length ≤ 10000) :
    Calls Tryd.prog 39 #[.slice (some ad) xs.length c] w fun e w' => ∃ v : Value, e = .returned v ∧ Kd.R (Kd.int .u8) 5 w' w.heap.size (fun _ => True) v xs ∧ Below w.heap.size w w' := by
  have HB := Aside0.mk (Below.refl w.heap.size w)
  have HC := Aside0.mk hC
  clear hC
  have q22 : ∀ (w : World) (a : Option Addr) (n c n' c' : Nat), (binOp .eql 38 (.slice a n c) (.slice none n' c')).run Tryd.prog w = .ok (.bool a.isNone) w := fun w a n c n' c' => Lib.run_eql_slice_nil w _ _ a n c n' c' Tryd.underlying38
  go_enter Tryd.func39, Tryd.ntmps39
  have HO : Aside0 (Kd.R (Kd.int .u8) 5 (w.alloc (Obj.cells #[] 5)) w.heap.size (fun _ => True) (.slice (some ⟨w.heap.size, 0, none⟩) 0 0) []) := ⟨Kd.R_of_own (own_lit w w.heap.size 5 .u8 [] (Nat.le_refl _) (by decide)) (fun _ _ => trivial)⟩
  go_wp2_with (first | ((with_reducible refine gate_builtin (b := .append) (xs := #[.tmp 5, .tmp 6]) rfl ?_); at_builtin; refine Kd.R_append_row (Value.int .u8) (0 : Int) (h1 := fun _ => rfl) (w0 := w) w.heap.size rfl (.tmp 5) (.tmp 6) 38 5 (.int .u8 0) 1 rfl Tryd.underlying38 infoE rfl (by decide) (.slice (some ⟨w.heap.size, 0, none⟩) 0 0) [] xs (some ad) xs.length c (fun _ => True) rfl rfl (fun _ _ => trivial) HO.out (Kd.C_below HC.out (below_alloc (Below.refl _ _) _)) (below_alloc HB.out _) (by simp) (by simp; omega) ?_; intro v1 w1 hR hb hg hat))
  go_ret
  exact ⟨v1, rfl, hR, hb⟩
set_option maxHeartbeats 2000000 in
set_option maxRecDepth 100000 in
theorem clone_none (c : Nat) (w : World) :
    Calls Tryd.prog 39 #[.slice none 0 c] w fun e w' => ∃ v : Value, e = .returned v ∧ Kd.R (Kd.int .u8) 5 w' w.heap.size (fun _ => True) v [] ∧ Below w.heap.size w w' := by
  have HB := Aside0.mk (Below.refl w.heap.size w)
  have q22 : ∀ (w : World) (a : Option Addr) (n c n' c' : Nat), (binOp .eql 38 (.slice a n c) (.slice none n' c')).run Tryd.prog w = .ok (.bool a.isNone) w := fun w a n c n' c' => Lib.run_eql_slice_nil w _ _ a n c n' c' Tryd.underlying38
  go_enter Tryd.func39, Tryd.ntmps39
  go_wp2
  go_ret
  exact ⟨_, rfl, Kd.R_nil _ _ _ _ _, HB.out⟩
theorem clone_any (xs : List Int) (A : Option Addr) (c : Nat) (w : World) (hC : Kd.C (Kd.int .u8) w A xs.length xs) (hc : xs.length ≤ c) (hl : xs.length ≤ 10000) :
    Calls Tryd.prog 39 #[.slice A xs.length c] w fun e w' => ∃ A' c', e = .returned (.slice A' xs.length c') ∧ Kd.R (Kd.int .u8) 5 w' w.heap.size (fun _ => True) (.slice A' xs.length c') xs ∧ Below w.heap.size w w' := by
  cases A with
  | some ad =>
    refine (clone_some xs ad c w hC hc hl).mono ?_
    rintro e w' ⟨v, rfl, hR, hb⟩
    obtain ⟨A', c', rfl⟩ := Kd.R_slice hR
    exact ⟨A', c', rfl, hR, hb⟩
  | none =>
    have : xs = [] := by
      cases xs with
      | nil => rfl
      | cons x l =>
        obtain ⟨ad, h, _⟩ := hC.2.2 (by simp)
        cases h
    subst this
    refine (clone_none c w).mono ?_
    rintro e w' ⟨v, rfl, hR, hb⟩
    obtain ⟨A', c', rfl⟩ := Kd.R_slice hR
    exact ⟨A', c', rfl, hR, hb⟩
theorem clone_m (xs : List Int) (m : Nat) (hm : xs.length = m) (A : Option Addr) (c : Nat) (w : World) (hC : Kd.C (Kd.int .u8) w A m xs) (hc : m ≤ c) (hl : m ≤ 10000) :
    Calls Tryd.prog 39 #[.slice A m c] w fun e w' => ∃ A' c', e = .returned (.slice A' m c') ∧ Kd.R (Kd.int .u8) 5 w' w.heap.size (fun _ => True) (.slice A' m c') xs ∧ Below w.heap.size w w' := by
  subst hm
  exact clone_any xs A c w hC hc hl
theorem or_byte {v x : Int} (h0 : 0 ≤ v) (h1 : v < 16777216) (h2 : 0 ≤ x) (h3 : x ≤ 255) : bits .or .u32 (v * 256) x = v * 256 + x := by
  obtain ⟨a, rfl⟩ := Int.eq_ofNat_of_zero_le h0
  obtain ⟨b, rfl⟩ := Int.eq_ofNat_of_zero_le h2
  have e1 : ((a : Int) * 256) = ((a * 256 : Nat) : Int) := by omega
  have e2 : (a * 256 : Nat) = a <<< 8 := by rw [Nat.shiftLeft_eq]
  have key : ((BitVec.ofInt 32 ((a * 256 : Nat) : Int)) ||| (BitVec.ofInt 32 (b : Int))).toNat = a * 256 + b := by
    rw [BitVec.toNat_or, BitVec.ofInt_natCast, BitVec.ofInt_natCast, BitVec.toNat_ofNat, BitVec.toNat_ofNat, Nat.mod_eq_of_lt (by omega), Nat.mod_eq_of_lt (by omega), e2, ← Nat.shiftLeft_add_eq_or_of_lt (by omega)]
  rw [e1]
  show IntKind.u32.wrap (((BitVec.ofInt 32 ((a * 256 : Nat) : Int)) ||| (BitVec.ofInt 32 (b : Int))).toNat) = _
  rw [key]
  simp [IntKind.wrap, IntKind.bits, IntKind.signed]
  omega
theorem wrap_u32 (n : Int) : IntKind.u32.wrap n = n % 4294967296 := by simp [IntKind.wrap, IntKind.bits, IntKind.signed]
abbrev At (w0 w : World) (g : Nat) (B : List Int) (s : St) : Prop := OSymReads.IsS81 w0 w g B s.t s.r s.g s.v
theorem next_is (B : List Int) (hB : Bytes B) (hl : B.length ≤ 10000) (t : Nat) (ht : t ≤ 10000) (r G V : Int) : OSymReads.reader_Reader_next.f B t r G V = some (by_ B t, ((t + 1 : Nat) : Int), r, G, V) := by
  have e1 : wrap64 ((t : Int) + 1) = ((t + 1 : Nat) : Int) := by unfold wrap64; omega
  have e2 : wrap64 (((t + 1 : Nat) : Int) - 1) = t := by unfold wrap64; omega
  have hb := Rd.by_in hB t
  unfold OSymReads.reader_Reader_next.f
  rw [e1, e2]
  split
  · have : by_ B t = 0 := by unfold by_; rw [List.getD_eq_getElem?_getD, List.getElem?_eq_none (by omega)]; rfl
    rw [this]
  · rw [if_pos (by omega), if_pos (by omega)]
    have e3 : rd B (t : Int) = by_ B t := rfl
    rw [e3, Int.emod_eq_of_lt (by omega) (by omega)]
theorem next_any (g : Nat) (B : List Int) (hB : Bytes B) (hl : B.length ≤ 10000) (s : St) (ht : s.t ≤ 10000) (w0 w : World) (hI : At w0 w g B s) (hb : Below w0.heap.size w0 w) :
    Calls Tryd.prog 40 #[.pointer (some ⟨g, 0, none⟩)] w fun e w' => e = .returned (.int .u32 (by_ B s.t)) ∧ At w0 w' g B ⟨s.t + 1, s.r, s.g, s.v⟩ ∧ Below w0.heap.size w0 w' ∧ KeepBut w w' g none :=
  OSymReads.reader_Reader_next.calls g B s.t s.r s.g s.v _ _ _ _ _ w0 w hI hb (next_is B hB hl s.t ht s.r s.g s.v)
def vk (B : List Int) : Nat → Int
  | 0 => 0
  | k + 1 => vk B k * 256 + by_ B k
theorem vk_in (B : List Int) (hB : Bytes B) : ∀ k, 0 ≤ vk B k ∧ vk B k < 256 ^ k
  | 0 => by simp [vk]
  | k + 1 => by
    have := vk_in B hB k
    have := Rd.by_in hB k
    rw [vk, Int.pow_succ]
    omega
theorem at_keep {w0 w : World} {g : Nat} {B : List Int} {s : St} (h : At w0 w g B s) : w.cell? ⟨g, 4, none⟩ = some (.int .u32 s.v) ∧ w.frozen? ⟨g, 4, none⟩ = false := by
  obtain ⟨A1, c1, hg1, _, _⟩ := h
  exact ⟨OSymReads.cellS81_4 hg1, blk_frozen hg1 4⟩
theorem clone_in {w w0 : World} {A : Option Addr} {m c : Nat} {B : List Int} (h : Kd.R (Kd.int .u8) 5 w0 w.heap.size (fun _ => True) (.slice A m c) B) (hm : B.length = m) : Kd.C (Kd.int .u8) w0 A m B := by
  have h2 := (Kd.R_reads' h).2.2
  rwa [hm] at h2
theorem at_new (w0 : World) (A : Option Addr) (c m : Nat) (B : List Int) (hm : B.length = m) (h : Kd.C (Kd.int .u8) w0 A m B) : At w0 (w0.alloc (.cells #[.slice A m c, .int .i64 0, .int .i64 0, .int .u32 16777216, .int .u32 0] 81)) w0.heap.size B ⟨0, 0, 16777216, vk B 0⟩ := by
  subst hm
  exact OSymReads.IsS81.new w0 w0 A c B 0 0 16777216 0 (Below.refl _ _) h
set_option maxHeartbeats 2000000 in
set_option maxRecDepth 100000 in
theorem new_at (B : List Int) (m : Nat) (hm : B.length = m) (hB : Bytes B) (hl : m ≤ 10000) (A : Option Addr) (c : Nat) (w : World) (hC : Kd.C (Kd.int .u8) w A m B) (hc : m ≤ c) :
    Calls Tryd.prog 18 #[.slice A m c] w fun e w' => ∃ w0, e = .returned (.pointer (some ⟨w0.heap.size, 0, none⟩)) ∧ At w0 w' w0.heap.size B (Rd.new B) ∧ Below w0.heap.size w0 w' ∧ w.heap.size ≤ w0.heap.size ∧ Below w.heap.size w w' := by
  have HM := Aside0.mk hm
  have HBy := Aside0.mk hB
  have HC := Aside0.mk hC
  clear hm hB hC
  go_enter Tryd.func18, Tryd.ntmps18
  go_wp2_with (first
    | (go_at_call 39; (with_reducible refine (clone_m B m HM.out A c _ HC.out hc hl).mono ?_); rintro e w0 ⟨A', c', rfl, hR, hb⟩; have HR := Aside0.mk hR; have HB := Aside0.mk hb; clear hR hb))
  have HCB := Aside0.mk (clone_in HR.out HM.out)
  go_loopw [8] (fun i wr => ∃ (k : Nat), k ≤ 3 ∧ i = .int .i64 k ∧ Aside0 (At w0 wr w0.heap.size B ⟨k, 0, 16777216, vk B k⟩) ∧ Aside0 (Below w0.heap.size w0 wr)) (fun i _ => (3 - intOf i).toNat)
  case atStart => exact ⟨0, by omega, rfl, ⟨at_new w0 A' c' m B HM.out HCB.out⟩, ⟨below_alloc (Below.refl _ _) _⟩⟩
  case round =>
    obtain ⟨k, hk, rfl, HI, HW⟩ := hrel
    by_cases ht : k < 3
    · obtain ⟨A1, c1, hg1, hge1, _⟩ := HI.out
      have hc4 := OSymReads.cellS81_4 hg1
      have hf4 := blk_frozen hg1 4
      have hv := vk_in B HBy.out k
      have hv2 : vk B k < 16777216 := by
        rcases (by omega : k = 0 ∨ k = 1 ∨ k = 2) with rfl | rfl | rfl <;> (simp only [Int.reducePow] at hv; omega)
      have HV := Aside0.mk hv.1
      have HV2 := Aside0.mk hv2
      obtain ⟨v, hv'⟩ : ∃ v, vk B k = v := ⟨_, rfl⟩
      obtain ⟨d, hd'⟩ : ∃ d, by_ B k = d := ⟨_, rfl⟩
      have HD := Aside0.mk (Rd.by_in HBy.out k)
      rw [hv'] at hc4 HI HV HV2
      rw [hd'] at HD
      have HH : Aside0 (∀ w1, At w0 w1 w0.heap.size B ⟨k, 0, 16777216, v⟩ → Below w0.heap.size w0 w1 → Calls Tryd.prog 40 #[.pointer (some ⟨w0.heap.size, 0, none⟩)] w1 fun e w' => e = .returned (.int .u32 d) ∧ At w0 w' w0.heap.size B ⟨k + 1, 0, 16777216, v⟩ ∧ Below w0.heap.size w0 w') :=
        ⟨fun w1 hI hb => (next_any w0.heap.size B HBy.out (HM.out ▸ hl) ⟨k, 0, 16777216, v⟩ (by show k ≤ 10000; omega) w0 w1 hI hb).mono (fun e w' h => ⟨hd' ▸ h.1, h.2.1, h.2.2.1⟩)⟩
      have HVD : Aside0 (vk B (k + 1) = v * 256 + d) := ⟨by rw [vk, hv', hd']⟩
      have eo : bits .or .u32 (v * 256) d = v * 256 + d := or_byte HV.out HV2.out HD.out.1 HD.out.2
      have ew : IntKind.u32.wrap (v * 256) = v * 256 := by have := HV.out; have := HV2.out; rw [wrap_u32]; omega
      clear hg1 hge1 hv hv2 hv' hd'
      go_wp2
      go_region_with (first | (go_at_call 40; (first | (with_reducible refine (HH.out _ HI.out HW.out).mono ?_) | (with_reducible refine (HH.out _ (OSymReads.IsS81.drew HI.out) (below_drew1 HW.out)).mono ?_)); rintro e w2 ⟨rfl, hI2, hb2⟩; have hk := at_keep hI2; have hk4 := hk.1; have hkf := hk.2; simp only at hk4))
      all_goals (
        go_wp2
        go_roundw
        case rel => exact ⟨k + 1, by omega, by simp, ⟨HVD.out.symm ▸ OSymReads.IsS81.set_4 hI2 _⟩, ⟨below_set hb2 (Nat.le_refl _)⟩⟩
        case measure => simp [intOf]; omega)
    · have hk3 : k = 3 := by omega
      subst hk3
      have HV3 := Aside0.mk (show vk B 3 = by_ B 0 * 65536 + by_ B 1 * 256 + by_ B 2 by simp only [vk]; omega)
      clear ht
      go_wp2
      go_ret
      exact ⟨w0, rfl, by unfold Rd.new; rw [← HV3.out]; exact HI.out, HW.out, HB.out.size, below_step HB.out HW.out⟩
end Go.Proofs.YtjmoklebimejaaaDoor.RdWalk
