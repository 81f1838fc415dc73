import Derived.Test.YthccifjjmigklaaRrRaw
import Derived.Test.YthccifjjmigklaaRrTake1
import Derived.Test.YthccifjjmigklaaRrTake2
import Derived.Test.YthccifjjmigklaaRrTake3
namespace Go.Proofs.Ythccifjjmigklaa.RrWalk
open Go.RowKit Go.Proofs.YthccifjjmigklaaW.PrintWords Go.Proofs.YthccifjjmigklaaW.PrintLast Go.Proofs.YthccifjjmigklaaW.PrintMore
open Go.Proofs.Ythccifjjmigklaa.Rd (St by_ Bytes)
open Go.Proofs.Ythccifjjmigklaa.RdWalk (wrap_u32 cutW cut_size cut_get cut_below NoByte left w64n tdiv8 tmod8 rawn)
attribute [local go_sem] max2_int min2_int max_two min_two max_three min_three max_four min_four   -- for this text's walks alone
set_option linter.unusedVariables false
set_option linter.unusedSimpArgs false
set_option maxHeartbeats 2000000 in
set_option maxRecDepth 100000 in
theorem take_none (g : Nat) (B : List Int) (s : St) (a b n : Int) (w0 w : World) (hI : At w0 w g B s) (hb : Below w0.heap.size w0 w) (b1 b2 b3 b4 : Bool)
    (d1 : decide (a < 0) = b1) (d2 : decide (b ≤ a) = b2) (d3 : decide (n < b) = b3) (d4 : decide (4096 < n) = b4) (h : Aside0 ((b1 || b2 || b3 || b4) = true)) :
    Calls Try.prog 17 #[.pointer (some ⟨g, 0, none⟩), .int .i64 a, .int .i64 b, .int .i64 n] w fun e w' => e = .returned (.tuple #[]) ∧ At w0 w' g B s ∧ Below w0.heap.size w0 w' ∧ KeepBut w w' g none := by
  have HI := Aside0.mk hI
  have HW := Aside0.mk hb
  have HK := Aside0.mk (KeepBut.refl w g none)
  clear hI hb
  cases b1 <;> cases b2 <;> cases b3 <;> cases b4 <;> first | (exfalso; exact absurd h.out (by decide)) | (
    clear h
    go_enter Try.func17, Try.ntmps17
    go_wp2
    first | go_end0 | ((try simp only [Exit.inBlock, Exit.then]); refine bodyPost_ret (results_none rfl _ _ _) rfl ?_)
    exact ⟨rfl, HI.out, HW.out, HK.out⟩)
theorem take_any (g : Nat) (B : List Int) (hB : Bytes B) (s : St) (hs : Rd.Good s) (ht : s.t ≤ 9990) (a b n : Int) (w0 w : World) (hI : At w0 w g B s) (hb : Below w0.heap.size w0 w) :
    Calls Try.prog 17 #[.pointer (some ⟨g, 0, none⟩), .int .i64 a, .int .i64 b, .int .i64 n] w fun e w' => e = .returned (.tuple #[]) ∧ At w0 w' g B (Rd.take B s a b n) ∧ Below w0.heap.size w0 w' ∧ KeepBut w w' g none := by
  unfold Rd.take
  by_cases hk : Rd.ok a b n
  · rw [if_pos hk]
    obtain ⟨p0, p1, o0, o1, s0, s1⟩ := Rd.part_is hs.g0 hs.g1 hk
    have hrg := Rd.rg_in hs.g0 hs.g1 hk
    have hF := Rd.cut_fair hs hk
    obtain ⟨k0, k1, k2, k3⟩ := hk
    have hg0 := hs.g0
    have hg1 := hs.g1
    have hv0 := hs.v0
    have hv1 := hs.v1
    obtain ⟨tk, rw, G, V⟩ := s
    simp only at *
    have hq : G.tdiv n = G / n := Int.tdiv_eq_ediv_of_nonneg (by omega)
    have hw : ∀ x : Int, -4294967296 ≤ x → x ≤ 4294967295 → wrap64 x = x := fun x h0 h1 => by unfold wrap64; omega
    obtain ⟨p, hp⟩ : ∃ p, G / n = p := ⟨_, rfl⟩
    have hc : Rd.cut ⟨tk, rw, G, V⟩ a b n = ⟨tk, rw, Rd.rg G a b n, min (V - min (a * p) V) (Rd.rg G a b n - 1)⟩ := by simp only [Rd.cut]; rw [hp]
    rw [hc] at hF ⊢
    have hrg2 : Rd.rg G a b n = if b = n then G - a * p else (b - a) * p := by unfold Rd.rg; rw [hp]
    rw [hp] at p0 p1 o0 o1 s0 s1 hrg
    obtain ⟨R, hR⟩ : ∃ R, Rd.rg G a b n = R := ⟨_, rfl⟩
    rw [hR] at hF hrg hrg2 ⊢
    obtain ⟨o, ho⟩ : ∃ o, a * p = o := ⟨_, rfl⟩
    rw [ho] at o0 o1 s1 hrg hrg2 hF ⊢
    have h2 : wrap64 (G.tdiv n) = p := by rw [hq, hp]; exact hw _ (by omega) (by omega)
    have h4 : wrap64 (a * p) = o := by rw [ho]; exact hw _ (by omega) (by omega)
    have h7 : wrap64 (b - a) = b - a := hw _ (by omega) (by omega)
    have h8 : wrap64 (V - o) = V - o := hw _ (by omega) (by omega)
    have h9 : wrap64 (R - 1) = R - 1 := hw _ (by omega) (by omega)
    have d1 : decide (a < 0) = false := decide_eq_false (by omega)
    have d2 : decide (b ≤ a) = false := decide_eq_false (by omega)
    have d3 : decide (n < b) = false := decide_eq_false (by omega)
    have d0 : decide (4096 < n) = false := decide_eq_false (by omega)
    by_cases hbn : b = n
    · rw [if_pos hbn] at hrg2
      have h5 : wrap64 (G - o) = R := by rw [← hrg2]; exact hw _ (by omega) (by omega)
      by_cases hy : V - o < 0
      · rw [show min (V - min o V) (R - 1) = 0 by omega] at hF ⊢
        exact take_e1 g B hB tk rw G V a b n p o _ R ht w0 w hI hb d1 d2 d3 d0 (beq_iff_eq.2 hbn) (by omega) h2 h4 h5 h7 h8 (decide_eq_true hy) h9 (decide_eq_false (by omega)) ⟨hF⟩
      · by_cases hz : R - 1 < V - o
        · rw [show min (V - min o V) (R - 1) = R - 1 by omega] at hF ⊢
          exact take_e2 g B hB tk rw G V a b n p o _ R ht w0 w hI hb d1 d2 d3 d0 (beq_iff_eq.2 hbn) (by omega) h2 h4 h5 h7 h8 (decide_eq_false hy) h9 (decide_eq_true hz) ⟨hF⟩
        · rw [show min (V - min o V) (R - 1) = V - o by omega] at hF ⊢
          exact take_e0 g B hB tk rw G V a b n p o _ R ht w0 w hI hb d1 d2 d3 d0 (beq_iff_eq.2 hbn) (by omega) h2 h4 h5 h7 h8 (decide_eq_false hy) h9 (decide_eq_false hz) ⟨hF⟩
    · rw [if_neg hbn] at hrg2
      have h5 : wrap64 ((b - a) * p) = R := by rw [← hrg2]; exact hw _ (by omega) (by omega)
      by_cases hy : V - o < 0
      · rw [show min (V - min o V) (R - 1) = 0 by omega] at hF ⊢
        exact take_m1 g B hB tk rw G V a b n p o _ R ht w0 w hI hb d1 d2 d3 d0 (beq_eq_false_iff_ne.2 hbn) (by omega) h2 h4 h5 h7 h8 (decide_eq_true hy) h9 (decide_eq_false (by omega)) ⟨hF⟩
      · by_cases hz : R - 1 < V - o
        · rw [show min (V - min o V) (R - 1) = R - 1 by omega] at hF ⊢
          exact take_m2 g B hB tk rw G V a b n p o _ R ht w0 w hI hb d1 d2 d3 d0 (beq_eq_false_iff_ne.2 hbn) (by omega) h2 h4 h5 h7 h8 (decide_eq_false hy) h9 (decide_eq_true hz) ⟨hF⟩
        · rw [show min (V - min o V) (R - 1) = V - o by omega] at hF ⊢
          exact take_m0 g B hB tk rw G V a b n p o _ R ht w0 w hI hb d1 d2 d3 d0 (beq_eq_false_iff_ne.2 hbn) (by omega) h2 h4 h5 h7 h8 (decide_eq_false hy) h9 (decide_eq_false hz) ⟨hF⟩
  · rw [if_neg hk]
    refine take_none g B s a b n w0 w hI hb _ _ _ _ rfl rfl rfl rfl ⟨?_⟩
    simp only [Rd.ok] at hk
    simp only [Bool.or_eq_true, decide_eq_true_eq]
    omega
theorem get_is (B : List Int) (s : St) (hs : Rd.Good s) (n : Int) : PReaderPlays.spinetref07_Reader_Get.f 3 B s.t s.r s.g s.v n = some (Rd.get s n, (s.t : Int), (s.r : Int), s.g, s.v) := by
  have hg0 := hs.g0
  have hg1 := hs.g1
  have hv0 := hs.v0
  have hv1 := hs.v1
  unfold PReaderPlays.spinetref07_Reader_Get.f Rd.get
  by_cases h : 1 ≤ n
  · rw [if_neg (by omega)]
    by_cases h2 : n ≤ 4096
    · have hp : 16 ≤ s.g / n := by
        have := Int.ediv_le_ediv (a := 65536) (b := s.g) (c := n) (by omega) (by omega)
        have h2 : (16 : Int) ≤ 65536 / n := (Int.le_ediv_iff_mul_le (by omega)).mpr (by omega)
        omega
      have hle : s.g / n ≤ s.g := Int.ediv_le_self n (by omega)
      have h5 : 0 ≤ s.v / (s.g / n) := Int.ediv_nonneg (by omega) (by omega)
      have h6 : s.v / (s.g / n) ≤ s.v := Int.ediv_le_self _ (by omega)
      have b3 : -4294967296 ≤ s.g / n ∧ s.g / n ≤ 4294967295 := by omega
      have b5 : -4294967296 ≤ s.v / (s.g / n) ∧ s.v / (s.g / n) ≤ 4294967295 := by omega
      have c3 : ¬ s.g / n = 0 := by omega
      have c4 : (decide (n > 4096)) = false := decide_eq_false (by omega)
      have c5 : ¬ n = 0 := by omega
      have hw : ∀ x : Int, -4294967296 ≤ x ∧ x ≤ 4294967295 → wrap64 x = x := fun x h => by unfold wrap64; omega
      have e2 : s.g.tdiv n = s.g / n := Int.tdiv_eq_ediv_of_nonneg (by omega)
      have e4 : s.v.tdiv (s.g / n) = s.v / (s.g / n) := Int.tdiv_eq_ediv_of_nonneg (by omega)
      have e6 : wrap64 (n - 1) = n - 1 := hw _ (by omega)
      rw [c4, if_pos (show 1 ≤ n ∧ n ≤ 4096 from ⟨h, h2⟩)]
      simp only [PReaderPlays.spinetref07_Reader_Get.j0]
      rw [if_neg (by decide), if_neg c5, e2, hw _ b3, if_neg c3, e4, hw _ b5, e6]
      clear e2 e4 e6 hw
      split
      · rw [show min (s.v / (s.g / n)) (n - 1) = n - 1 by omega]
      · rw [show min (s.v / (s.g / n)) (n - 1) = s.v / (s.g / n) by omega]
    · have c4 : (decide (n > 4096)) = true := decide_eq_true (by omega)
      rw [c4]
      simp only [PReaderPlays.spinetref07_Reader_Get.j0]
      rw [if_pos trivial, if_neg (by omega)]
  · rw [if_pos (by omega)]
    simp only [PReaderPlays.spinetref07_Reader_Get.j0]
    rw [if_pos trivial, if_neg (by omega)]
theorem get_any (g : Nat) (B : List Int) (s : St) (hs : Rd.Good s) (n : Int) (w0 w : World) (hI : At w0 w g B s) (hb : Below w0.heap.size w0 w) :
    Calls Try.prog 16 #[.pointer (some ⟨g, 0, none⟩), .int .i64 n] w fun e w' => e = .returned (.int .i64 (Rd.get s n)) ∧ At w0 w' g B s ∧ Below w0.heap.size w0 w' ∧ KeepBut w w' g none :=
  PReaderPlays.spinetref07_Reader_Get.calls 3 g B s.t s.r s.g s.v n _ _ _ _ _ w0 w hI hb (get_is B s hs n)
theorem left_any (g : Nat) (B : List Int) (hl : B.length ≤ 10000) (s : St) (ht : s.t ≤ 10000) (hr : s.r ≤ 100000) (w0 w : World) (hI : At w0 w g B s) (hb : Below w0.heap.size w0 w) :
    Calls Try.prog 19 #[.pointer (some ⟨g, 0, none⟩)] w fun e w' => e = .returned (.int .i64 (left B s)) ∧ At w0 w' g B s ∧ Below w0.heap.size w0 w' ∧ KeepBut w w' g none :=
  PReaderPlays.spinetref07_Reader_Left.calls g B s.t s.r s.g s.v _ _ _ _ _ w0 w hI hb (by
    unfold PReaderPlays.spinetref07_Reader_Left.f left
    rw [show wrap64 (wrap64 (wrap64 (8 * (B.length : Int)) - wrap64 (8 * (s.t : Int))) - s.r) = 8 * ((B.length : Int) - s.t) - s.r by unfold wrap64; omega])
/-- The document's reader at a block, whatever the world was ahead of it. -/
def RrAt (w : World) (g : Nat) (B : List Int) (s : St) : Prop := At (cutW w g) w g B s
theorem at_lt {w0 w : World} {g : Nat} {B : List Int} {s : St} (h : At w0 w g B s) : g < w.heap.size := by
  obtain ⟨_, _, hg, _, _⟩ := h
  exact blk_lt hg
theorem rr_of {w0 w : World} {g : Nat} {B : List Int} {s : St} (h : At w0 w g B s) (hb : Below w0.heap.size w0 w) : RrAt w g B s := by
  have hlt := at_lt h
  obtain ⟨A0, c0, hg, hge, hC⟩ := h
  refine ⟨A0, c0, hg, by rw [cut_size (by omega)]; exact Nat.le_refl _, (Kd.heap_int .u8).C ?_ hC⟩
  intro k hk
  rw [cut_get (by omega)]
  exact hb.block k hk
theorem face {w : World} {g : Nat} {B : List Int} {s s' : St} {n : Nat} {args : Array Value} {ret : Ending} (h : RrAt w g B s)
    (hc : ∀ w0 w, At w0 w g B s → Below w0.heap.size w0 w → Calls Try.prog n args w fun e w' => e = ret ∧ At w0 w' g B s' ∧ Below w0.heap.size w0 w' ∧ KeepBut w w' g none) :
    Calls Try.prog n args w fun e w' => e = ret ∧ RrAt w' g B s' ∧ Below g w w' ∧ KeepBut w w' g none := by
  have hlt := at_lt h
  have hz : (cutW w g).heap.size = g := cut_size (by omega)
  refine (hc (cutW w g) w h (by rw [hz]; exact cut_below (by omega))).mono ?_
  rintro e w' ⟨rfl, h1, h2, h3⟩
  refine ⟨rfl, rr_of h1 h2, ⟨h2.os, h2.tape, h2.output, h3.1, fun k hk => ?_⟩, h3⟩
  have := h2.block k (by rw [hz]; exact hk)
  rw [this, cut_get hk]
theorem RrAt.noByte {w : World} {g : Nat} {B : List Int} {s : St} (h : RrAt w g B s) : NoByte w g := by
  obtain ⟨A0, c0, hg, _, _⟩ := h
  rintro ⟨b, o, p⟩ x rfl hc
  simp only [World.cell?, hg] at hc
  revert hc
  rcases o with _ | _ | _ | _ | _ | o <;> cases p <;> simp
theorem RrAt.move {w w' : World} {g g' : Nat} {B : List Int} {s : St} (h : RrAt w g B s) (hk : KeepBut w w' g' none) (hne : g ≠ g') (hnb : NoByte w g') : RrAt w' g B s := by
  have hlt := at_lt h
  obtain ⟨A0, c0, hg, hge, hC⟩ := h
  have hs := hk.1
  have hz : (cutW w g).heap.size = g := cut_size (by omega)
  have hz' : (cutW w' g).heap.size = g := cut_size (by omega)
  have hkc : KeepBut (cutW w g) (cutW w' g) g' none := ⟨by omega, fun i hi hi2 hi3 => by rw [cut_get (by omega), cut_get (by omega)]; exact hk.2 i (by omega) hi2 hi3⟩
  refine ⟨A0, c0, (hk.2 g hlt hne (by simp)).trans hg, by omega, Kd.C_foot_ne (fun h => h) hC ?_ _ hkc⟩
  intro ad he hn hb
  obtain ⟨ad', c, he', _, hK, hc0⟩ := Kd.C_get hC (0 : Int) 0 (by omega) (by omega)
  rw [he] at he'
  injection he' with he'
  subst he'
  have hK' : c = [Value.int .u8 (B.getD 0 0)] := hK
  subst hK'
  have h1 := hc0 0 _ rfl
  have h2 : (cutW w g).cell? (ad.add 0) = some (.int .u8 (B.getD 0 0)) := h1
  have h3 := Kd.cell_heap (w1 := w) (fun k hk => (cut_get (by omega)).symm) h2
  exact hnb _ _ (by rw [add_block]; exact hb) h3
theorem RrAt.below {w w' : World} {g : Nat} {B : List Int} {s : St} (h : RrAt w g B s) (hb : Below w.heap.size w w') : RrAt w' g B s := by
  have hlt := at_lt h
  obtain ⟨A0, c0, hg, hge, hC⟩ := h
  have hz : (cutW w g).heap.size = g := cut_size (by omega)
  have hs := hb.size
  refine ⟨A0, c0, (hb.block g hlt).trans hg, by rw [cut_size (by omega)]; exact Nat.le_refl _, (Kd.heap_int .u8).C ?_ hC⟩
  intro k hk
  rw [cut_get (by omega), cut_get (by omega)]
  exact hb.block k (by omega)
theorem rr_new (B : List Int) (m : Nat) (hm : B.length = m) (hB : Bytes B) (A : Option Addr) (c : Nat) (w : World) (hC : Kd.C (Kd.int .u8) w A m B) :
    Calls Try.prog 15 #[.slice A m c] w fun e w' => ∃ g, e = .returned (.pointer (some ⟨g, 0, none⟩)) ∧ RrAt w' g B (Rd.new B) ∧ w.heap.size ≤ g ∧ Below w.heap.size w w' := by
  refine (new_at B m hm hB A c w hC).mono ?_
  rintro e w' ⟨rfl, h1, h2⟩
  exact ⟨_, rfl, rr_of h1 h2, Nat.le_refl _, h2⟩
theorem rr_get {g : Nat} {B : List Int} {s : St} (hs : Rd.Good s) (n : Int) {w : World} (h : RrAt w g B s) :
    Calls Try.prog 16 #[.pointer (some ⟨g, 0, none⟩), .int .i64 n] w fun e w' => e = .returned (.int .i64 (Rd.get s n)) ∧ RrAt w' g B s ∧ Below g w w' ∧ KeepBut w w' g none :=
  face h (fun w0 w hI hb => get_any g B s hs n w0 w hI hb)
theorem rr_take {g : Nat} {B : List Int} (hB : Bytes B) {s : St} (hs : Rd.Good s) (ht : s.t ≤ 9990) (a b n : Int) {w : World} (h : RrAt w g B s) :
    Calls Try.prog 17 #[.pointer (some ⟨g, 0, none⟩), .int .i64 a, .int .i64 b, .int .i64 n] w fun e w' => e = .returned (.tuple #[]) ∧ RrAt w' g B (Rd.take B s a b n) ∧ Below g w w' ∧ KeepBut w w' g none :=
  face h (fun w0 w hI hb => take_any g B hB s hs ht a b n w0 w hI hb)
theorem rr_raw {g : Nat} {B : List Int} (hB : Bytes B) (hl : B.length ≤ 10000) {s : St} (hr : s.r ≤ 90000) (n : Int) {w : World} (h : RrAt w g B s) :
    Calls Try.prog 18 #[.pointer (some ⟨g, 0, none⟩), .int .i64 n] w fun e w' => e = .returned (.int .i64 (Rd.raw B s.r (Rd.cl n))) ∧ RrAt w' g B (rawn s n) ∧ Below g w w' ∧ KeepBut w w' g none :=
  face h (fun w0 w hI hb => raw_any g B hB hl s hr n w0 w hI hb)
theorem rr_left {g : Nat} {B : List Int} (hl : B.length ≤ 10000) {s : St} (ht : s.t ≤ 10000) (hr : s.r ≤ 100000) {w : World} (h : RrAt w g B s) :
    Calls Try.prog 19 #[.pointer (some ⟨g, 0, none⟩)] w fun e w' => e = .returned (.int .i64 (left B s)) ∧ RrAt w' g B s ∧ Below g w w' ∧ KeepBut w w' g none :=
  face h (fun w0 w hI hb => left_any g B hl s ht hr w0 w hI hb)
theorem rr_rng {g : Nat} {B : List Int} {s : St} {w : World} (h : RrAt w g B s) : w.cell? ⟨g, 3, none⟩ = some (.int .i64 s.g) := (at_cells h).2.2.1
end Go.Proofs.Ythccifjjmigklaa.RrWalk
