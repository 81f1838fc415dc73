import Derived.Test.YtjmoklebimejaaaDoorRdTake
namespace Go.Proofs.YtjmoklebimejaaaDoor.RdWalk
open Go.RowKit Go.Proofs.YtjmoklebimejaaaDoorW.PrintWords Go.Proofs.YtjmoklebimejaaaDoorW.PrintLast Go.Proofs.YtjmoklebimejaaaDoorW.PrintMore
open Go.Proofs.YtjmoklebimejaaaDoor.Rd (St by_ Bytes)
set_option linter.unusedVariables false
set_option linter.unusedSimpArgs false
theorem and_one : ∀ x : Fin 256, bits .and .u8 ((x.val : Nat) : Int) 1 = ((x.val : Nat) : Int) % 2 := by decide +kernel
theorem and_one' {x : Int} (h0 : 0 ≤ x) (h1 : x ≤ 255) : bits .and .u8 x 1 = x % 2 := by
  obtain ⟨a, rfl⟩ := Int.eq_ofNat_of_zero_le h0
  exact and_one ⟨a, by omega⟩
theorem pow_15 {i : Nat} (h : i ≤ 15) : (2 : Int) ^ i ≤ 32768 := by
  have h2 : 2 ^ i ≤ 2 ^ 15 := Nat.pow_le_pow_right (by decide) h
  have := Int.ofNat_le.mpr h2
  rw [Int.natCast_pow] at this
  exact this
theorem or_bit {x c : Int} {i : Nat} (hi : i ≤ 15) (h0 : 0 ≤ x) (h1 : x < 2 ^ i) (h2 : 0 ≤ c) (h3 : c ≤ 1) : bits .or .u32 x (c * 2 ^ i) = x + c * 2 ^ i := by
  obtain ⟨a, rfl⟩ := Int.eq_ofNat_of_zero_le h0
  obtain ⟨b, rfl⟩ := Int.eq_ofNat_of_zero_le h2
  have hp : 2 ^ i ≤ 2 ^ 15 := Nat.pow_le_pow_right (by decide) hi
  have hp' : 2 ^ i ≤ 32768 := hp
  have h1' : a < 2 ^ i := by
    have : ((2 ^ i : Nat) : Int) = 2 ^ i := by rw [Int.natCast_pow]; rfl
    rw [← this] at h1
    omega
  have e1 : ((b : Int) * 2 ^ i) = ((b <<< i : Nat) : Int) := by rw [Nat.shiftLeft_eq, Int.natCast_mul, Int.natCast_pow]; rfl
  have e2 : b <<< i ≤ 32768 := by
    rw [Nat.shiftLeft_eq]
    rcases (by omega : b = 0 ∨ b = 1) with rfl | rfl <;> omega
  have key : ((BitVec.ofInt 32 (a : Int)) ||| (BitVec.ofInt 32 ((b <<< i : Nat) : Int))).toNat = a + b <<< i := by
    rw [BitVec.toNat_or, BitVec.ofInt_natCast, BitVec.ofInt_natCast, BitVec.toNat_ofNat, BitVec.toNat_ofNat, Nat.mod_eq_of_lt (by omega), Nat.mod_eq_of_lt (by omega), Nat.or_comm, ← Nat.shiftLeft_add_eq_or_of_lt h1']
    omega
  rw [e1]
  show IntKind.u32.wrap (((BitVec.ofInt 32 (a : Int)) ||| (BitVec.ofInt 32 ((b <<< i : Nat) : Int))).toNat) = _
  rw [key, wrap_u32]
  omega
theorem w64n {x : Int} (h0 : -1000000 ≤ x) (h1 : x ≤ 1000000) : wrap64 x = x := by unfold wrap64; omega
theorem tdiv8 (n : Nat) : ((n : Int)).tdiv 8 = ((n / 8 : Nat) : Int) := by rw [Int.tdiv_eq_ediv_of_nonneg (by omega)]; omega
theorem tmod8 (n : Nat) : ((n : Int)).tmod 8 = ((n % 8 : Nat) : Int) := by rw [Int.tmod_eq_emod_of_nonneg (by omega)]; omega
theorem raw_l (B : List Int) (hB : Bytes B) (hl : B.length ≤ 10000) (r : Nat) (hr : r ≤ 90000) (t g v : Int) (n : Nat) (hn : n ≤ 16) :
    ∀ (d i k : Nat), i + d = n → d < k → OSymReads.reader_Reader_Raw.l0 k (Rd.raw B r i) n i B t ((r + i : Nat) : Int) g v = some (Rd.raw B r n, t, ((r + n : Nat) : Int), g, v) := by
  intro d
  induction d with
  | zero =>
    intro i k hi hk
    obtain ⟨k, rfl⟩ : ∃ m, k = m + 1 := ⟨k - 1, by omega⟩
    obtain rfl : i = n := by omega
    simp only [OSymReads.reader_Reader_Raw.l0]
    rw [if_neg (by omega)]
  | succ d ih =>
    intro i k hi hk
    obtain ⟨k, rfl⟩ : ∃ m, k = m + 1 := ⟨k - 1, by omega⟩
    have ih2 := ih (i + 1) k (by omega) (by omega)
    have hin := Rd.raw_in B r i
    have hc0 : (i : Int) < n := by omega
    have b1 : -1000000 ≤ (B.length : Int) - 1 ∧ (B.length : Int) - 1 ≤ 1000000 := by omega
    have b3 : -1000000 ≤ (((r + i) / 8 : Nat) : Int) ∧ (((r + i) / 8 : Nat) : Int) ≤ 1000000 := by omega
    have b4 : -1000000 ≤ (B.length : Int) - 1 - (((r + i) / 8 : Nat) : Int) ∧ (B.length : Int) - 1 - (((r + i) / 8 : Nat) : Int) ≤ 1000000 := by omega
    have b6 : -1000000 ≤ (i : Int) + 1 ∧ (i : Int) + 1 ≤ 1000000 := by omega
    have b7 : -1000000 ≤ ((r + i : Nat) : Int) + 1 ∧ ((r + i : Nat) : Int) + 1 ≤ 1000000 := by omega
    have c6 : (i : Int) + 1 = ((i + 1 : Nat) : Int) := by omega
    have c7 : ((r + i : Nat) : Int) + 1 = ((r + (i + 1) : Nat) : Int) := by omega
    have e1 := w64n b1.1 b1.2
    have e2 := tdiv8 (r + i)
    have e3 := w64n b3.1 b3.2
    have e4 := w64n b4.1 b4.2
    have e5 := tmod8 (r + i)
    have e6 := w64n b6.1 b6.2
    have e7 := w64n b7.1 b7.2
    simp only [OSymReads.reader_Reader_Raw.l0]
    rw [if_pos hc0, e1, e2, e3, e4, e5, e6, e7, c6, c7]
    clear e1 e2 e3 e4 e5 e6 e7
    by_cases hat : (r + i) / 8 < B.length
    · rw [if_pos (by omega), if_pos (by omega), if_pos (by omega), if_pos (by omega), if_pos (by omega)]
      have hbt : Rd.bit B (r + i) = by_ B (B.length - 1 - (r + i) / 8) / 2 ^ ((r + i) % 8) % 2 := by unfold Rd.bit; rw [if_pos hat]
      have e8 : rd B ((B.length : Int) - 1 - (((r + i) / 8 : Nat) : Int)) = by_ B (B.length - 1 - (r + i) / 8) := by
        unfold rd by_
        rw [show ((B.length : Int) - 1 - (((r + i) / 8 : Nat) : Int)).toNat = B.length - 1 - (r + i) / 8 by omega]
      have hby := Rd.by_in hB (B.length - 1 - (r + i) / 8)
      have hbi := Rd.bit_in B (r + i)
      rw [e8]
      obtain ⟨x, hx⟩ : ∃ x, by_ B (B.length - 1 - (r + i) / 8) = x := ⟨_, rfl⟩
      rw [hx] at hby hbt ⊢
      have hk8 : (r + i) % 8 < 8 := by omega
      obtain ⟨q, hq⟩ : ∃ q, (r + i) % 8 = q := ⟨_, rfl⟩
      rw [hq] at hbt hk8 ⊢
      have e9 : shr .u8 x (q : Int) = x / 2 ^ q := by
        unfold shr
        rw [show min ((q : Int)).toNat (IntKind.u8).bits = q by rw [Int.toNat_natCast]; exact Nat.min_eq_left (by show q ≤ 8; omega)]
      have hpq : (0 : Int) < 2 ^ q := Int.pow_pos (by decide)
      have hd0 : 0 ≤ x / 2 ^ q := Int.ediv_nonneg hby.1 (by omega)
      have hd1 : x / 2 ^ q ≤ x := Int.ediv_le_self _ hby.1
      rw [e9, and_one' hd0 (by omega), ← hbt]
      obtain ⟨c, hc⟩ : ∃ c, Rd.bit B (r + i) = c := ⟨_, rfl⟩
      rw [hc] at hbi ⊢
      have hp15 := pow_15 (i := i) (by omega)
      have hpi : (0 : Int) < 2 ^ i := Int.pow_pos (by decide)
      have hcm : 0 ≤ c * 2 ^ i ∧ c * 2 ^ i ≤ 32768 := by rcases (by omega : c = 0 ∨ c = 1) with rfl | rfl <;> omega
      have e10 : shl .u32 (c % 4294967296) (i : Int) = c * 2 ^ i := by
        unfold shl
        rw [show min ((i : Int)).toNat (IntKind.u32).bits = i by rw [Int.toNat_natCast]; exact Nat.min_eq_left (by show i ≤ 32; omega), wrap_u32, Int.emod_eq_of_lt (a := c) (by omega) (by omega)]
        omega
      rw [e10, or_bit (by omega) hin.1 hin.2 hbi.1 hbi.2]
      have e11 : Rd.raw B r i + c * 2 ^ i = Rd.raw B r (i + 1) := by rw [Rd.raw, hc]
      rw [e11]
      exact ih2
    · rw [if_neg (by omega)]
      have e11 : Rd.raw B r i = Rd.raw B r (i + 1) := by
        rw [Rd.raw, show Rd.bit B (r + i) = 0 by unfold Rd.bit; rw [if_neg hat]]; omega
      rw [e11]
      exact ih2
theorem raw_is (B : List Int) (hB : Bytes B) (hl : B.length ≤ 10000) (r : Nat) (hr : r ≤ 90000) (t g v n : Int) : OSymReads.reader_Reader_Raw.f 20 B t r g v n = some (Rd.raw B r (Rd.cl n), t, ((r + Rd.cl n : Nat) : Int), g, v) := by
  have h := raw_l B hB hl r hr t g v (Rd.cl n) (Rd.cl_le n) (Rd.cl n) 0 20 (by omega) (by have := Rd.cl_le n; omega)
  have e : mn (mx n 0) 16 = (Rd.cl n : Int) := by unfold mn mx Rd.cl; omega
  unfold OSymReads.reader_Reader_Raw.f
  rw [e]
  exact h
def rawn (s : St) (n : Int) : St := ⟨s.t, s.r + Rd.cl n, s.g, s.v⟩
theorem raw_any (g : Nat) (B : List Int) (hB : Bytes B) (hl : B.length ≤ 10000) (s : St) (hr : s.r ≤ 90000) (n : Int) (w0 w : World) (hI : At w0 w g B s) (hb : Below w0.heap.size w0 w) :
    Calls Tryd.prog 71 #[.pointer (some ⟨g, 0, none⟩), .int .i64 n] w fun e w' => e = .returned (.int .u32 (Rd.raw B s.r (Rd.cl n))) ∧ At w0 w' g B (rawn s n) ∧ Below w0.heap.size w0 w' ∧ KeepBut w w' g none :=
  OSymReads.reader_Reader_Raw.calls 20 g B s.t s.r s.g s.v n _ _ _ _ _ w0 w hI hb (raw_is B hB hl s.r hr s.t s.g s.v n)
/-- The world below a block. -/
def cutW (w : World) (b : Nat) : World := { w with heap := w.heap.extract 0 b }
theorem cut_size {w : World} {b : Nat} (h : b ≤ w.heap.size) : (cutW w b).heap.size = b := by simp [cutW]; omega
theorem cut_get {w : World} {b k : Nat} (hk : k < b) : (cutW w b).heap[k]? = w.heap[k]? := by
  simp only [cutW, Array.getElem?_extract]
  split
  · simp
  · rw [Array.getElem?_eq_none (by omega)]
theorem cut_below {w : World} {b : Nat} (h : b ≤ w.heap.size) : Below b (cutW w b) w := ⟨rfl, rfl, rfl, by rw [cut_size h]; exact h, fun k hk => (cut_get hk).symm⟩
/-- A reader at a block, whatever the world was ahead of it. -/
def RdAt (w : World) (g : Nat) (B : List Int) (s : St) : Prop := At (cutW w g) w g B s
theorem at_lt {w0 w : World} {g : Nat} {B : List Int} {s : St} (h : At w0 w g B s) : g < w.heap.size := by
  obtain ⟨_, _, hg, _, _⟩ := h
  exact blk_lt hg
theorem rd_of {w0 w : World} {g : Nat} {B : List Int} {s : St} (h : At w0 w g B s) (hb : Below w0.heap.size w0 w) : RdAt w g B s := by
  have hlt := at_lt h
  obtain ⟨A0, c0, hg, hge, hC⟩ := h
  refine ⟨A0, c0, hg, by rw [cut_size (by omega)]; exact Nat.le_refl _, (Kd.heap_int .u8).C ?_ hC⟩
  intro k hk
  rw [cut_get (by omega)]
  exact hb.block k hk
theorem face {w : World} {g : Nat} {B : List Int} {s s' : St} {n : Nat} {args : Array Value} {ret : Ending} (h : RdAt w g B s)
    (hc : ∀ w0 w, At w0 w g B s → Below w0.heap.size w0 w → Calls Tryd.prog n args w fun e w' => e = ret ∧ At w0 w' g B s' ∧ Below w0.heap.size w0 w' ∧ KeepBut w w' g none) :
    Calls Tryd.prog n args w fun e w' => e = ret ∧ RdAt w' g B s' ∧ Below g w w' ∧ KeepBut w w' g none := by
  have hlt := at_lt h
  have hz : (cutW w g).heap.size = g := cut_size (by omega)
  refine (hc (cutW w g) w h (by rw [hz]; exact cut_below (by omega))).mono ?_
  rintro e w' ⟨rfl, h1, h2, h3⟩
  refine ⟨rfl, rd_of h1 h2, ⟨h2.os, h2.tape, h2.output, h3.1, fun k hk => ?_⟩, h3⟩
  have := h2.block k (by rw [hz]; exact hk)
  rw [this, cut_get hk]
/-- No byte lies in a block. -/
def NoByte (w : World) (g : Nat) : Prop := ∀ (a : Addr) (x : Int), a.block = g → w.cell? a ≠ some (.int .u8 x)
theorem RdAt.noByte {w : World} {g : Nat} {B : List Int} {s : St} (h : RdAt w g B s) : NoByte w g := by
  obtain ⟨A0, c0, hg, _, _⟩ := h
  rintro ⟨b, o, p⟩ x rfl hc
  simp only [World.cell?, hg] at hc
  revert hc
  rcases o with _ | _ | _ | _ | _ | o <;> cases p <;> simp
theorem RdAt.move {w w' : World} {g g' : Nat} {B : List Int} {s : St} (h : RdAt w g B s) (hk : KeepBut w w' g' none) (hne : g ≠ g') (hnb : NoByte w g') : RdAt w' g B s := by
  have hlt := at_lt h
  obtain ⟨A0, c0, hg, hge, hC⟩ := h
  have hs := hk.1
  have hz : (cutW w g).heap.size = g := cut_size (by omega)
  have hz' : (cutW w' g).heap.size = g := cut_size (by omega)
  have hkc : KeepBut (cutW w g) (cutW w' g) g' none := ⟨by omega, fun i hi hi2 hi3 => by rw [cut_get (by omega), cut_get (by omega)]; exact hk.2 i (by omega) hi2 hi3⟩
  refine ⟨A0, c0, (hk.2 g hlt hne (by simp)).trans hg, by omega, Kd.C_foot_ne (fun h => h) hC ?_ _ hkc⟩
  intro ad he hn hb
  obtain ⟨ad', c, he', _, hK, hc0⟩ := Kd.C_get hC (0 : Int) 0 (by omega) (by omega)
  rw [he] at he'
  injection he' with he'
  subst he'
  have hK' : c = [Value.int .u8 (B.getD 0 0)] := hK
  subst hK'
  have h1 := hc0 0 _ rfl
  have h2 : (cutW w g).cell? (ad.add 0) = some (.int .u8 (B.getD 0 0)) := h1
  have h3 := Kd.cell_heap (w1 := w) (fun k hk => (cut_get (by omega)).symm) h2
  exact hnb _ _ (by rw [add_block]; exact hb) h3
theorem RdAt.below {w w' : World} {g : Nat} {B : List Int} {s : St} (h : RdAt w g B s) (hb : Below w.heap.size w w') : RdAt w' g B s := by
  have hlt := at_lt h
  obtain ⟨A0, c0, hg, hge, hC⟩ := h
  have hz : (cutW w g).heap.size = g := cut_size (by omega)
  have hs := hb.size
  refine ⟨A0, c0, (hb.block g hlt).trans hg, by rw [cut_size (by omega)]; exact Nat.le_refl _, (Kd.heap_int .u8).C ?_ hC⟩
  intro k hk
  rw [cut_get (by omega), cut_get (by omega)]
  exact hb.block k (by omega)
theorem rd_new (B : List Int) (m : Nat) (hm : B.length = m) (hB : Bytes B) (hl : m ≤ 10000) (A : Option Addr) (c : Nat) (w : World) (hC : Kd.C (Kd.int .u8) w A m B) (hc : m ≤ c) :
    Calls Tryd.prog 18 #[.slice A m c] w fun e w' => ∃ g, e = .returned (.pointer (some ⟨g, 0, none⟩)) ∧ RdAt w' g B (Rd.new B) ∧ w.heap.size ≤ g ∧ Below w.heap.size w w' := by
  refine (new_at B m hm hB hl A c w hC hc).mono ?_
  rintro e w' ⟨w0, rfl, h1, h2, h3, h4⟩
  exact ⟨_, rfl, rd_of h1 h2, h3, h4⟩
theorem rd_get {g : Nat} {B : List Int} {s : St} (hs : Rd.Good s) (n : Int) {w : World} (h : RdAt w g B s) :
    Calls Tryd.prog 70 #[.pointer (some ⟨g, 0, none⟩), .int .i64 n] w fun e w' => e = .returned (.int .i64 (Rd.get s n)) ∧ RdAt w' g B s ∧ Below g w w' ∧ KeepBut w w' g none :=
  face h (fun w0 w hI hb => get_any g B s hs n w0 w hI hb)
theorem rd_take {g : Nat} {B : List Int} (hB : Bytes B) (hl : B.length ≤ 10000) {s : St} (hs : Rd.Good s) (ht : s.t ≤ 9990) (a b n : Int) {w : World} (h : RdAt w g B s) :
    Calls Tryd.prog 72 #[.pointer (some ⟨g, 0, none⟩), .int .i64 a, .int .i64 b, .int .i64 n] w fun e w' => e = .returned (.tuple #[]) ∧ RdAt w' g B (Rd.take B s a b n) ∧ Below g w w' ∧ KeepBut w w' g none :=
  face h (fun w0 w hI hb => take_any g B hB hl s hs ht a b n w0 w hI hb)
theorem rd_raw {g : Nat} {B : List Int} (hB : Bytes B) (hl : B.length ≤ 10000) {s : St} (hr : s.r ≤ 90000) (n : Int) {w : World} (h : RdAt w g B s) :
    Calls Tryd.prog 71 #[.pointer (some ⟨g, 0, none⟩), .int .i64 n] w fun e w' => e = .returned (.int .u32 (Rd.raw B s.r (Rd.cl n))) ∧ RdAt w' g B (rawn s n) ∧ Below g w w' ∧ KeepBut w w' g none :=
  face h (fun w0 w hI hb => raw_any g B hB hl s hr n w0 w hI hb)
theorem rd_left {g : Nat} {B : List Int} (hl : B.length ≤ 10000) {s : St} (ht : s.t ≤ 10000) (hr : s.r ≤ 100000) {w : World} (h : RdAt w g B s) :
    Calls Tryd.prog 27 #[.pointer (some ⟨g, 0, none⟩)] w fun e w' => e = .returned (.int .i64 (left B s)) ∧ RdAt w' g B s ∧ Below g w w' ∧ KeepBut w w' g none :=
  face h (fun w0 w hI hb => left_any g B hl s ht hr w0 w hI hb)
theorem rd_rng {g : Nat} {B : List Int} {s : St} {w : World} (h : RdAt w g B s) :
    Calls Tryd.prog 30 #[.pointer (some ⟨g, 0, none⟩)] w fun e w' => e = .returned (.int .u32 s.g) ∧ RdAt w' g B s ∧ Below g w w' ∧ KeepBut w w' g none :=
  face h (fun w0 w hI hb => rng_any g B s w0 w hI hb)
end Go.Proofs.YtjmoklebimejaaaDoor.RdWalk
