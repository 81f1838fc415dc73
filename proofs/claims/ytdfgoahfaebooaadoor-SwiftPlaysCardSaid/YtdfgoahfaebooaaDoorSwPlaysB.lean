import Derived.Test.YtdfgoahfaebooaaDoorSwTwo
import Derived.Test.YtdfgoahfaebooaaDoorRrFaceB
namespace Go.Proofs.YtdfgoahfaebooaaDoor.SwWalk
open Go.RowKit Go.Proofs.YtdfgoahfaebooaaDoorW.PrintWords Go.Proofs.YtdfgoahfaebooaaDoorW.PrintLast Go.Proofs.YtdfgoahfaebooaaDoorW.PrintMore
open Go.Proofs.YtdfgoahfaebooaaDoor.Rd (St by_ Bytes)
set_option linter.unusedVariables false
set_option linter.unusedSimpArgs false
/-! #### struct type 31 -/
structure S31 where
  f0 : Int
  f1 : Int
  f2 : Int
  f3 : Int
def z31 : S31 := ⟨(0 : Int), (0 : Int), (0 : Int), (0 : Int)⟩
def k31 : Kd S31 := Kd.iso (Kd.pair (Kd.int .u8) (Kd.pair (Kd.int .i64) (Kd.pair (Kd.int .i64) (Kd.int .i64)))) (fun x : S31 => (x.f0, x.f1, x.f2, x.f3))
theorem k31_open {w : World} {x : S31} {cs : List Value} (h : k31.K w x cs) : cs = [.int .u8 x.f0, .int .i64 x.f1, .int .i64 x.f2, .int .i64 x.f3] := by
  obtain ⟨_, _, rfl, rfl, ⟨_, _, rfl, rfl, ⟨_, _, rfl, rfl, rfl⟩⟩⟩ := h
  exact rfl
theorem k31_openM {w : World} {base : Nat} {ok : Nat → Prop} {x : S31} {cs : List Value} (h : k31.M w base ok x cs) : cs = [.int .u8 x.f0, .int .i64 x.f1, .int .i64 x.f2, .int .i64 x.f3] := by
  obtain ⟨_, _, rfl, rfl, ⟨_, _, rfl, rfl, ⟨_, _, rfl, rfl, rfl⟩⟩⟩ := h
  exact rfl
theorem k31_mk (w : World) (x : S31)  : k31.K w x [.int .u8 x.f0, .int .i64 x.f1, .int .i64 x.f2, .int .i64 x.f3] := ⟨[.int .u8 x.f0], [.int .i64 x.f1, .int .i64 x.f2, .int .i64 x.f3], rfl, rfl, ⟨[.int .i64 x.f1], [.int .i64 x.f2, .int .i64 x.f3], rfl, rfl, ⟨[.int .i64 x.f2], [.int .i64 x.f3], rfl, rfl, rfl⟩⟩⟩
theorem k31_mkM (w : World) (base : Nat) (ok : Nat → Prop) (x : S31)  : k31.M w base ok x [.int .u8 x.f0, .int .i64 x.f1, .int .i64 x.f2, .int .i64 x.f3] := ⟨[.int .u8 x.f0], [.int .i64 x.f1, .int .i64 x.f2, .int .i64 x.f3], rfl, rfl, ⟨[.int .i64 x.f1], [.int .i64 x.f2, .int .i64 x.f3], rfl, rfl, ⟨[.int .i64 x.f2], [.int .i64 x.f3], rfl, rfl, rfl⟩⟩⟩
def rd_T31 (xs : List S31) (i : Int) : S31 := xs.getD i.toNat z31
theorem at_T31 {w : World} {A : Option Addr} {n : Nat} {xs : List S31} (h : Kd.C k31 w A n xs) (i : Int) (h0 : 0 ≤ i) (h1 : i < n) : ∃ ad , A = some ad ∧ w.cell? (ad.add (i.toNat * 4)) = some (.int .u8 (rd_T31 xs i).f0) ∧ w.cell? ⟨(ad.add (i.toNat * 4)).block, (ad.add (i.toNat * 4)).off + 1, none⟩ = some (.int .i64 (rd_T31 xs i).f1) ∧ w.cell? ⟨(ad.add (i.toNat * 4)).block, (ad.add (i.toNat * 4)).off + 2, none⟩ = some (.int .i64 (rd_T31 xs i).f2) ∧ w.cell? ⟨(ad.add (i.toNat * 4)).block, (ad.add (i.toNat * 4)).off + 3, none⟩ = some (.int .i64 (rd_T31 xs i).f3) := by
  obtain ⟨ad, c, e, _, hK, hc0⟩ := Kd.C_get h z31 i h0 h1
  have hc : ∀ j u, c[j]? = some u → w.cell? (ad.add (i.toNat * 4 + j)) = some u := hc0
  obtain rfl := k31_open hK
  exact ⟨ad, e, hc 0 _ rfl, by rw [← add_field _ _ 1 (by omega)]; exact hc 1 _ rfl, by rw [← add_field _ _ 2 (by omega)]; exact hc 2 _ rfl, by rw [← add_field _ _ 3 (by omega)]; exact hc 3 _ rfl⟩

/-- An element out of its numbers. -/
def to31 (z : List Int) : S31 := ⟨z.getD 0 0, z.getD 1 0, z.getD 2 0, z.getD 3 0⟩
theorem ops31 {w : World} {A : Option Addr} {len cap : Nat} {zs : List (List Int)} (h : StructRows.Rows [.u8, .i64, .i64, .i64] w A len cap zs) : Kd.C k31 w A len (zs.map to31) ∧ len ≤ cap ∧ ∀ x ∈ zs.map to31, (Lit.int .u8 x.f0).wf = true ∧ (Lit.int .i64 x.f1).wf = true ∧ (Lit.int .i64 x.f2).wf = true ∧ (Lit.int .i64 x.f3).wf = true := by
  obtain ⟨h1, h2, h3, h4, h5⟩ := h
  refine ⟨⟨by simpa using h2, h3, fun hn => ?_⟩, h1, fun x hx => ?_⟩
  · obtain ⟨ad, e, hc⟩ := h5 hn
    refine ⟨ad, e, fun j p hj => ?_⟩
    rw [List.getElem?_map] at hj
    obtain ⟨z, hz, rfl⟩ := Option.map_eq_some_iff.1 hj
    refine ⟨_, rfl, k31_mk w (to31 z), fun i u hu => ?_⟩
    rcases i with _ | _ | _ | _ | i <;> simp at hu
    · subst hu; exact hc j z hz 0 _ rfl
    · subst hu; exact hc j z hz 1 _ rfl
    · subst hu; exact hc j z hz 2 _ rfl
    · subst hu; exact hc j z hz 3 _ rfl
  · obtain ⟨z, hz, rfl⟩ := List.mem_map.1 hx
    have := h4 z hz
    exact ⟨this 0 _ rfl, this 1 _ rfl, this 2 _ rfl, this 3 _ rfl⟩
theorem SwW.lt {base g : Nat} {w : World} {B : List Int} {s : St} (H : SwW base w g B s) : g < w.heap.size := H.elim fun _ h => h.1.lt
theorem SwW.ge {base g : Nat} {w : World} {B : List Int} {s : St} (H : SwW base w g B s) : base ≤ g := H.elim fun _ h => h.1.ge
theorem SwW.block {base g : Nat} {w : World} {B : List Int} {s : St} (H : SwW base w g B s) : ∃ cs, w.heap[g]? = some (.cells cs 59 (0, 0)) := H.elim fun _ h => h.1.block
theorem SwW.below {base g : Nat} {w w' : World} {B : List Int} {s : St} (H : SwW base w g B s) (hb : Below w.heap.size w w') : SwW base w' g B s := H.elim fun k h => ⟨k, h.1.below hb, h.2⟩
theorem SwW.move {base g g' : Nat} {w w' : World} {B : List Int} {s : St} (H : SwW base w g B s) (hk : KeepBut w w' g' none) (hne : g ≠ g') {t : TypeId} (hb : ∃ cs, w.heap[g']? = some (.cells cs t (0, 0))) (ht : (5 : Nat) ≠ t) : SwW base w' g B s := by
  obtain ⟨k, h, hw⟩ := H
  obtain ⟨cs, hb⟩ := hb
  exact ⟨k, h.move hk hne hb ht, hw⟩
theorem SwW.noByte {base g : Nat} {w : World} {B : List Int} {s : St} (H : SwW base w g B s) : ∀ (a : Addr) (x : Int), a.block = g → w.cell? a ≠ some (.int .u8 x) := by
  obtain ⟨k, ⟨A0, c0, hg, _, _⟩, _⟩ := H
  rintro ⟨b, o, p⟩ x rfl hc
  simp only [World.cell?, hg] at hc
  revert hc
  rcases o with _ | _ | _ | _ | _ | _ | _ | _ | _ | o <;> cases p <;> simp
theorem sw_get' {base g : Nat} {B : List Int} {s : St} (hs : Rd.Good s) {n : Int} (hn : I64 n) {w : World} (hL : Laid w) (H : SwW base w g B s) :
    Calls Tryd.prog 12 #[.pointer (some ⟨g, 0, none⟩), .int .i64 n] w fun e w' => e = .returned (.int .i64 (Rd.get s n)) ∧ SwW base w' g B s ∧ Below g w w' ∧ KeepBut w w' g none := by
  obtain ⟨h, H, hw⟩ := H
  exact (sw_get hs hn hL H).mono fun e w' k => ⟨k.1, ⟨h, k.2.1, hw⟩, k.2.2⟩
theorem sw_left' {base g : Nat} {B : List Int} (hl : B.length ≤ 10000) {s : St} (ht : s.t ≤ 10000) (hr : s.r ≤ 100000) {w : World} (H : SwW base w g B s) :
    Calls Tryd.prog 18 #[.pointer (some ⟨g, 0, none⟩)] w fun e w' => e = .returned (.int .i64 (left B s)) ∧ SwW base w' g B s ∧ Below g w w' ∧ KeepBut w w' g none := by
  obtain ⟨h, H, hw⟩ := H
  exact (sw_left hl ht hr H).mono fun e w' k => ⟨k.1, ⟨h, k.2.1, hw⟩, k.2.2⟩
theorem sw_rng' {base g : Nat} {B : List Int} {s : St} {w : World} (H : SwW base w g B s) :
    Calls Tryd.prog 20 #[.pointer (some ⟨g, 0, none⟩)] w fun e w' => e = .returned (.int .u32 s.g) ∧ SwW base w' g B s ∧ Below g w w' ∧ KeepBut w w' g none := by
  obtain ⟨h, H, hw⟩ := H
  exact (sw_rng H).mono fun e w' k => ⟨k.1, ⟨h, k.2.1, hw⟩, k.2.2⟩
theorem sw_take' {base g : Nat} {B : List Int} (hB : Bytes B) (hl : B.length ≤ 10000) {s : St} (hs : Rd.Good s) (ht : s.t ≤ 9990) (a b : Int) {n : Int} (hn : I64 n) {w : World} (hL : Laid w) (H : SwW base w g B s) :
    Calls Tryd.prog 14 #[.pointer (some ⟨g, 0, none⟩), .int .i64 a, .int .i64 b, .int .i64 n] w fun e w' => e = .returned (.tuple #[]) ∧ SwW base w' g B (Rd.take B s a b n) ∧ Below g w w' ∧ KeepBut w w' g none := by
  obtain ⟨h, H, hw⟩ := H
  exact (sw_take hB hl hs ht a b hn hL H).mono fun e w' k => ⟨k.1, ⟨h, k.2.1, ⟨by rw [Rd.take_r]; exact hw.m8, hw.h7⟩⟩, k.2.2⟩
theorem SwAt.w0 {base g : Nat} {B : List Int} {w : World} (H : SwAt base w g B (Rd.new B) 0) : SwW base w g B (Rd.new B) := ⟨0, H, ⟨rfl, by decide⟩⟩
/-- Two readers side by side. -/
structure TwoW (w0 w : World) (g1 g2 : Nat) (B : List Int) (s1 s2 : St) : Prop where
  x : SwW w0.heap.size w g1 B s1
  y : SwW w0.heap.size w g2 B s2
  ne : g1 ≠ g2
  h2 : w0.heap.size ≤ g2
  hb : Below w0.heap.size w0 w
  hL : Laid w0
section
variable {w0 w w' : World} {g1 g2 : Nat} {B : List Int} {s1 s2 s' : St}
theorem TwoW.at1 (T : TwoW w0 w g1 g2 B s1 s2) (hI : SwW w0.heap.size w' g1 B s') (hb : Below g1 w w') (hk : KeepBut w w' g1 none) : TwoW w0 w' g1 g2 B s' s2 :=
  ⟨hI, T.y.move hk (Ne.symm T.ne) T.x.block (by decide), T.ne, T.h2, T.hb.trans (hb.mono T.x.ge), T.hL⟩
theorem TwoW.at2 (T : TwoW w0 w g1 g2 B s1 s2) (hI : SwW w0.heap.size w' g2 B s') (hb : Below g2 w w') (hk : KeepBut w w' g2 none) : TwoW w0 w' g1 g2 B s1 s' :=
  ⟨T.x.move hk T.ne (T.y.block) (by decide), hI, T.ne, T.h2, T.hb.trans (hb.mono T.h2), T.hL⟩
theorem TwoW.below (T : TwoW w0 w g1 g2 B s1 s2) (hb : Below w.heap.size w w') : TwoW w0 w' g1 g2 B s1 s2 :=
  ⟨T.x.below hb, T.y.below hb, T.ne, T.h2, T.hb.trans (hb.mono (Nat.le_trans T.x.ge (Nat.le_of_lt T.x.lt))), T.hL⟩
theorem TwoW.laid (T : TwoW w0 w g1 g2 B s1 s2) : Laid w := T.hL.below T.hb
theorem TwoW.lt1 (T : TwoW w0 w g1 g2 B s1 s2) : g1 < w.heap.size := T.x.lt
theorem TwoW.lt2 (T : TwoW w0 w g1 g2 B s1 s2) : g2 < w.heap.size := T.y.lt
end
end Go.Proofs.YtdfgoahfaebooaaDoor.SwWalk
namespace Go.Proofs.YtdfgoahfaebooaaDoor.SwLaw
open Go.RowKit Go.Proofs.YtdfgoahfaebooaaDoorW.PrintWords Go.Proofs.YtdfgoahfaebooaaDoorW.PrintLast Go.Proofs.YtdfgoahfaebooaaDoorW.PrintMore
open Go.Proofs.YtdfgoahfaebooaaDoor.Rd (St by_ Bytes)
open Go.Proofs.YtdfgoahfaebooaaDoor.SwWalk
open Go.Proofs.YtdfgoahfaebooaaDoor.RrWalk (RrAt rr_new rr_get rr_take rr_raw rr_left rr_rng)
set_option linter.unusedVariables false
set_option linter.unusedSimpArgs false
/-- Two readers side by side. -/
structure SwRr (w0 w : World) (g1 g2 : Nat) (B : List Int) (s1 s2 : St) : Prop where
  x : SwW w0.heap.size w g1 B s1
  y : RrAt w g2 B s2
  ne : g1 ≠ g2
  h2 : w0.heap.size ≤ g2
  hb : Below w0.heap.size w0 w
  hL : Laid w0
section
variable {w0 w w' : World} {g1 g2 : Nat} {B : List Int} {s1 s2 s' : St}
theorem SwRr.at1 (T : SwRr w0 w g1 g2 B s1 s2) (hI : SwW w0.heap.size w' g1 B s') (hb : Below g1 w w') (hk : KeepBut w w' g1 none) : SwRr w0 w' g1 g2 B s' s2 :=
  ⟨hI, T.y.move hk (Ne.symm T.ne) T.x.noByte, T.ne, T.h2, T.hb.trans (hb.mono T.x.ge), T.hL⟩
theorem SwRr.at2 (T : SwRr w0 w g1 g2 B s1 s2) (hI : RrAt w' g2 B s') (hb : Below g2 w w') (hk : KeepBut w w' g2 none) : SwRr w0 w' g1 g2 B s1 s' :=
  ⟨T.x.move hk T.ne (by obtain ⟨_, _, hg, _⟩ := T.y; exact ⟨_, hg⟩) (by decide), hI, T.ne, T.h2, T.hb.trans (hb.mono T.h2), T.hL⟩
theorem SwRr.below (T : SwRr w0 w g1 g2 B s1 s2) (hb : Below w.heap.size w w') : SwRr w0 w' g1 g2 B s1 s2 :=
  ⟨T.x.below hb, T.y.below hb, T.ne, T.h2, T.hb.trans (hb.mono (Nat.le_trans T.x.ge (Nat.le_of_lt T.x.lt))), T.hL⟩
theorem SwRr.laid (T : SwRr w0 w g1 g2 B s1 s2) : Laid w := T.hL.below T.hb
theorem SwRr.lt1 (T : SwRr w0 w g1 g2 B s1 s2) : g1 < w.heap.size := T.x.lt
theorem SwRr.lt2 (T : SwRr w0 w g1 g2 B s1 s2) : g2 < w.heap.size := RrWalk.at_lt T.y
end
theorem SwRr.keep {w0 w : World} {g1 g2 : Nat} {B : List Int} {s1 s2 : St} (T : SwRr w0 w g1 g2 B s1 s2) : w.cell? ⟨g2, 3, none⟩ = some (.int .i64 s2.g) ∧ Aside0 (SwRr w0 w g1 g2 B s1 s2) := ⟨rr_rng T.y, ⟨T⟩⟩
set_option maxHeartbeats 2000000 in
theorem refnew (B : List Int) (m : Nat) (hm : B.length = m) (hB : Bytes B) (A0 : Option Addr) (c : Nat) (w : World) (hC : Kd.C (Kd.int .u8) w A0 m B) :
    Calls Tryd.prog 11 #[.slice A0 m c] w fun e w' => ∃ g, e = .returned (.pointer (some ⟨g, 0, none⟩)) ∧ RrAt w' g B (Rd.new B) ∧ w.heap.size ≤ g ∧ Below w.heap.size w w' := by
  have HM := Aside0.mk hm
  have HBy := Aside0.mk hB
  have HC := Aside0.mk hC
  clear hm hB hC
  go_enter Tryd.func11, Tryd.ntmps11
  go_wp2_with (first
    | (go_at_call 34; (with_reducible refine (rr_new B m HM.out HBy.out A0 c _ HC.out).mono ?_); rintro e wy ⟨g2, rfl, hI, hg, hb⟩; have HI := Aside0.mk hI; have HG := Aside0.mk hg; have HBB := Aside0.mk hb; clear hI hg hb))
  go_ret
  exact ⟨_, rfl, HI.out, HG.out, HBB.out⟩
theorem pow_16s {i : Nat} (h : i ≤ 16) : (2 : Int) ^ i ≤ 65536 := by
  have h2 : 2 ^ i ≤ 2 ^ 16 := Nat.pow_le_pow_right (by decide) h
  have := Int.ofNat_le.mpr h2
  rw [Int.natCast_pow] at this
  exact this
set_option maxHeartbeats 8000000 in
set_option maxRecDepth 100000 in
theorem plays_at (B : List Int) (m : Nat) (l : List S31) (n : Nat) (hm : B.length = m) (hB : Bytes B) (hl : m ≤ 1300) (hn : l.length = n) (hn2 : n ≤ 200) (hop : ∀ o ∈ l, (0 ≤ o.f0 ∧ o.f0 ≤ 255) ∧ I64 o.f1 ∧ I64 o.f2 ∧ I64 o.f3)
    (A0 : Option Addr) (c0 : Nat) (A1 : Option Addr) (c1 : Nat) (w : World) (hLd : Laid w) (hC : Kd.C (Kd.int .u8) w A0 m B) (hc : m ≤ c0) (hD : Kd.C k31 w A1 n l) :
    Calls Tryd.prog 3 #[.slice A0 m c0, .slice A1 n c1] w fun e w' => e = .returned (.bool true) ∧ Below w.heap.size w w' := by
  have HB := Aside0.mk (Below.refl w.heap.size w)
  have HLD := Aside0.mk hLd
  have HM := Aside0.mk hm
  have HBy := Aside0.mk hB
  have HC := Aside0.mk hC
  have HD := Aside0.mk hD
  have HN := Aside0.mk hn
  have HOP := Aside0.mk hop
  clear hLd hm hB hC hD hn hop
  have hd1 : decide ((1300 : Int) < (m : Int)) = false := decide_eq_false (by omega)
  have hd2 : decide ((200 : Int) < (n : Int)) = false := decide_eq_false (by omega)
  go_enter Tryd.func3, Tryd.ntmps3
  go_wp2_with (first
    | (go_at_call 8; (with_reducible refine (awake_any _ (HLD.out.below HB.out)).mono ?_); rintro e wa ⟨rfl, hb⟩; have HB1 := Aside0.mk (below_step HB.out hb); clear HB hb; have HB := HB1; clear HB1)
    | (go_at_call 9; (with_reducible refine (long_no A0 m c0 A1 n c1 _ hd1 hd2).mono ?_); rintro e wl ⟨rfl, hb⟩; have HB1 := Aside0.mk (below_step HB.out hb); clear HB hb; have HB := HB1; clear HB1)
    | (go_at_call 10; (with_reducible refine (new_any B HBy.out m HM.out (by omega) A0 c0 _ (Kd.C_below HC.out HB.out) hc).mono ?_); rintro e wx ⟨g1, rfl, hI, hb⟩; have HX : Aside0 (SwW w.heap.size wx g1 B (Rd.new B)) := ⟨(hI.lower HB.out.size).w0⟩; have HBw := Aside0.mk (below_step HB.out hb); clear HB hb hI)
    | (go_at_call 11; (with_reducible refine (refnew B m HM.out HBy.out A0 c0 _ (Kd.C_below HC.out HBw.out)).mono ?_); rintro e wy ⟨g2, rfl, hI, hg, hb⟩; have HT : Aside0 (SwRr w wy g1 g2 B (Rd.new B) (Rd.new B)) := ⟨⟨HX.out.below hb, hI, Nat.ne_of_lt (Nat.lt_of_lt_of_le HX.out.lt hg), Nat.le_trans HBw.out.size hg, below_step HBw.out hb, HLD.out⟩⟩; clear HX HBw hI hb hg))
  go_loopw [21] (fun i wr => ∃ (k : Nat) (s : St), k ≤ n ∧ i = .int .i64 k ∧ Aside0 (SwRr w wr g1 g2 B s s) ∧ Aside0 (Rd.Good s ∧ s.t ≤ 3 + 2 * k ∧ s.r ≤ 16 * k)) (fun i _ => (n - intOf i).toNat)
  case atStart => exact ⟨0, Rd.new B, by omega, rfl, HT, ⟨Rd.new_good HBy.out, by simp [Rd.new], by simp [Rd.new]⟩⟩
  case round =>
    obtain ⟨k, s, hk, rfl, HT2, HS⟩ := hrel
    clear HT
    have HT := HT2
    clear HT2
    by_cases ht : k < n
    · 
      obtain ⟨ad, hA, hc0, hc1, hc2, hc3⟩ := at_T31 (Kd.C_below HD.out (HT.out.hb)) (k : Int) (by omega) (by omega)
      obtain ⟨hK0, hF0, hT0, hN0⟩ := HOP.out (rd_T31 l k) (by unfold rd_T31; rw [Int.toNat_natCast, List.getD_eq_getElem?_getD, List.getElem?_eq_getElem (by rw [HN.out]; exact ht)]; exact List.getElem_mem _)
      rw [Int.toNat_natCast] at hc0 hc1 hc2 hc3
      obtain ⟨⟨K, F, T, N⟩, ho⟩ : ∃ o, rd_T31 l k = o := ⟨_, rfl⟩
      rw [ho] at hc0 hc1 hc2 hc3 hK0 hF0 hT0 hN0
      simp only at hc0 hc1 hc2 hc3 hK0 hF0 hT0 hN0
      have HK0 := Aside0.mk hK0
      have HF0 := Aside0.mk hF0
      have HT0 := Aside0.mk hT0
      have HN0 := Aside0.mk hN0
      clear ho hK0 hF0 hT0 hN0
      subst hA
      have HL1 := Aside0.mk HT.out.lt1
      have HL2 := Aside0.mk HT.out.lt2
      by_cases h0 : K % 3 = 0
      · 
        have hf : Int.tmod K 3 = 0 := by rw [Int.tmod_eq_emod_of_nonneg HK0.out.1]; exact h0
        obtain ⟨Q, hQ⟩ : ∃ Q, Rd.get s T = Q := ⟨_, rfl⟩
        obtain ⟨s', hs'⟩ : ∃ s', Rd.take B s Q (wrap64 (Q + 1)) T = s' := ⟨_, rfl⟩
        have HS' : Aside0 (Rd.Good s' ∧ s'.t ≤ 3 + 2 * (k + 1) ∧ s'.r ≤ 16 * (k + 1)) := ⟨by
          rw [← hs']
          refine ⟨Rd.take_good HBy.out HS.out.1 _ _ _, ?_, by rw [Rd.take_r]; have := HS.out.2.2; omega⟩
          have := (Rd.take_t B s Q (wrap64 (Q + 1)) T).2
          have := HS.out.2.1
          omega⟩
        have hst : s.t ≤ 9990 := by have := HS.out.2.1; omega
        have CG1 : Aside0 (∀ wz so, SwRr w wz g1 g2 B s so → Calls Tryd.prog 12 #[.pointer (some ⟨g1, 0, none⟩), .int .i64 T] wz fun e w' => e = .returned (.int .i64 Q) ∧ SwRr w w' g1 g2 B s so ∧ KeepBut wz w' g1 none) := ⟨fun wz so T => (hQ ▸ sw_get' HS.out.1 HT0.out T.laid T.x).mono (fun e w' h => ⟨h.1, T.at1 h.2.1 h.2.2.1 h.2.2.2, h.2.2.2⟩)⟩
        have CG2 : Aside0 (∀ wz so, SwRr w wz g1 g2 B so s → Calls Tryd.prog 13 #[.pointer (some ⟨g2, 0, none⟩), .int .i64 T] wz fun e w' => e = .returned (.int .i64 Q) ∧ SwRr w w' g1 g2 B so s ∧ KeepBut wz w' g2 none) := ⟨fun wz so T => (hQ ▸ rr_get HS.out.1 _ T.y).mono (fun e w' h => ⟨h.1, T.at2 h.2.1 h.2.2.1 h.2.2.2, h.2.2.2⟩)⟩
        have CT1 : Aside0 (∀ wz so, SwRr w wz g1 g2 B s so → Calls Tryd.prog 14 #[.pointer (some ⟨g1, 0, none⟩), .int .i64 Q, .int .i64 (wrap64 (Q + 1)), .int .i64 T] wz fun e w' => e = .returned (.tuple #[]) ∧ SwRr w w' g1 g2 B s' so ∧ KeepBut wz w' g1 none) := ⟨fun wz so T => (hs' ▸ sw_take' HBy.out (by rw [HM.out]; omega) HS.out.1 hst _ _ HT0.out T.laid T.x).mono (fun e w' h => ⟨h.1, T.at1 h.2.1 h.2.2.1 h.2.2.2, h.2.2.2⟩)⟩
        have CT2 : Aside0 (∀ wz so, SwRr w wz g1 g2 B so s → Calls Tryd.prog 15 #[.pointer (some ⟨g2, 0, none⟩), .int .i64 Q, .int .i64 (wrap64 (Q + 1)), .int .i64 T] wz fun e w' => e = .returned (.tuple #[]) ∧ SwRr w w' g1 g2 B so s' ∧ KeepBut wz w' g2 none) := ⟨fun wz so T => (hs' ▸ rr_take HBy.out HS.out.1 hst _ _ _ T.y).mono (fun e w' h => ⟨h.1, T.at2 h.2.1 h.2.2.1 h.2.2.2, h.2.2.2⟩)⟩
        clear hQ hs' hst
        go_wp2_with (first
          | (go_at_call 12; (with_reducible refine (CG1.out _ _ (HT.out.below (below_alloc (Below.refl _ _) _))).mono ?_); rintro e w1 ⟨rfl, hT, hk⟩; have hv1 := keep_cell hk (a := ⟨wr.heap.size, 1, none⟩) (v := .int .i64 F) (by simp) (Nat.ne_of_gt HL1.out); have hv2 := keep_cell hk (a := ⟨wr.heap.size, 2, none⟩) (v := .int .i64 T) (by simp) (Nat.ne_of_gt HL1.out); have hv3 := keep_cell hk (a := ⟨wr.heap.size, 3, none⟩) (v := .int .i64 N) (by simp) (Nat.ne_of_gt HL1.out); clear HT hk; have HT := Aside0.mk hT; clear hT)
          | (go_at_call 12; (with_reducible refine (CG1.out _ _ (HT.out.below (below_drew1 (below_alloc (Below.refl _ _) _)))).mono ?_); rintro e w1 ⟨rfl, hT, hk⟩; have hv1 := keep_cell hk (a := ⟨wr.heap.size, 1, none⟩) (v := .int .i64 F) (by simp) (Nat.ne_of_gt HL1.out); have hv2 := keep_cell hk (a := ⟨wr.heap.size, 2, none⟩) (v := .int .i64 T) (by simp) (Nat.ne_of_gt HL1.out); have hv3 := keep_cell hk (a := ⟨wr.heap.size, 3, none⟩) (v := .int .i64 N) (by simp) (Nat.ne_of_gt HL1.out); clear HT hk; have HT := Aside0.mk hT; clear hT)
          | (go_at_call 12; (with_reducible refine (CG1.out _ _ HT.out).mono ?_); rintro e w1 ⟨rfl, hT, hk⟩; have m1 := keep_cell hk hv1 (Nat.ne_of_gt HL1.out); have m2 := keep_cell hk hv2 (Nat.ne_of_gt HL1.out); have m3 := keep_cell hk hv3 (Nat.ne_of_gt HL1.out); clear HT hk hv1 hv2 hv3; have HT := Aside0.mk hT; clear hT; have hv1 := m1; clear m1; have hv2 := m2; clear m2; have hv3 := m3; clear m3)
          | (go_at_call 13; (with_reducible refine (CG2.out _ _ HT.out).mono ?_); rintro e w1 ⟨rfl, hT, hk⟩; have m1 := keep_cell hk hv1 (Nat.ne_of_gt HL2.out); have m2 := keep_cell hk hv2 (Nat.ne_of_gt HL2.out); have m3 := keep_cell hk hv3 (Nat.ne_of_gt HL2.out); clear HT hk hv1 hv2 hv3; have HT := Aside0.mk hT; clear hT; have hv1 := m1; clear m1; have hv2 := m2; clear m2; have hv3 := m3; clear m3)
          | (go_at_call 14; (with_reducible refine (CT1.out _ _ HT.out).mono ?_); rintro e w1 ⟨rfl, hT, hk⟩; have m1 := keep_cell hk hv1 (Nat.ne_of_gt HL1.out); have m2 := keep_cell hk hv2 (Nat.ne_of_gt HL1.out); have m3 := keep_cell hk hv3 (Nat.ne_of_gt HL1.out); clear HT hk hv1 hv2 hv3; have HT := Aside0.mk hT; clear hT; have hv1 := m1; clear m1; have hv2 := m2; clear m2; have hv3 := m3; clear m3)
          | (go_at_call 15; (with_reducible refine (CT2.out _ _ HT.out).mono ?_); rintro e w1 ⟨rfl, hT, hk⟩; have m1 := keep_cell hk hv1 (Nat.ne_of_gt HL2.out); have m2 := keep_cell hk hv2 (Nat.ne_of_gt HL2.out); have m3 := keep_cell hk hv3 (Nat.ne_of_gt HL2.out); clear HT hk hv1 hv2 hv3; have HT := Aside0.mk hT; clear hT; have hv1 := m1; clear m1; have hv2 := m2; clear m2; have hv3 := m3; clear m3))
        have hst' : s'.t ≤ 10000 := by have := HS'.out.2.1; omega
        have hsr' : s'.r ≤ 100000 := by have := HS'.out.2.2; omega
        obtain ⟨L, hL⟩ : ∃ L, left B s' = L := ⟨_, rfl⟩
        have hLr : RdWalk.left B s' = L := hL
        obtain ⟨Q4, hQ4⟩ : ∃ Q4, Rd.get s' 4096 = Q4 := ⟨_, rfl⟩
        have hgr := HS'.out.1.g1
        have hgr0 := HS'.out.1.g0
        obtain ⟨G', hG'⟩ : ∃ G', s'.g = G' := ⟨_, rfl⟩
        rw [hG'] at hgr hgr0
        have hi4 : I64 4096 := by constructor <;> decide
        have PL1 : Aside0 (∀ wz, SwRr w wz g1 g2 B s' s' → Calls Tryd.prog 18 #[.pointer (some ⟨g1, 0, none⟩)] wz fun e w' => e = .returned (.int .i64 L) ∧ SwRr w w' g1 g2 B s' s') := ⟨fun wz T => (hL ▸ sw_left' (by rw [HM.out]; omega) hst' hsr' T.x).mono (fun e w' h => ⟨h.1, T.at1 h.2.1 h.2.2.1 h.2.2.2⟩)⟩
        have PL2 : Aside0 (∀ wz, SwRr w wz g1 g2 B s' s' → Calls Tryd.prog 19 #[.pointer (some ⟨g2, 0, none⟩)] wz fun e w' => e = .returned (.int .i64 L) ∧ SwRr w w' g1 g2 B s' s') := ⟨fun wz T => (hLr ▸ rr_left (by rw [HM.out]; omega) hst' hsr' T.y).mono (fun e w' h => ⟨h.1, T.at2 h.2.1 h.2.2.1 h.2.2.2⟩)⟩
        have PR1 : Aside0 (∀ wz, SwRr w wz g1 g2 B s' s' → Calls Tryd.prog 20 #[.pointer (some ⟨g1, 0, none⟩)] wz fun e w' => e = .returned (.int .u32 G') ∧ SwRr w w' g1 g2 B s' s') := ⟨fun wz T => (hG' ▸ sw_rng' T.x).mono (fun e w' h => ⟨h.1, T.at1 h.2.1 h.2.2.1 h.2.2.2⟩)⟩
        have PG1 : Aside0 (∀ wz, SwRr w wz g1 g2 B s' s' → Calls Tryd.prog 12 #[.pointer (some ⟨g1, 0, none⟩), .int .i64 4096] wz fun e w' => e = .returned (.int .i64 Q4) ∧ SwRr w w' g1 g2 B s' s') := ⟨fun wz T => (hQ4 ▸ sw_get' HS'.out.1 hi4 T.laid T.x).mono (fun e w' h => ⟨h.1, T.at1 h.2.1 h.2.2.1 h.2.2.2⟩)⟩
        have PG2 : Aside0 (∀ wz, SwRr w wz g1 g2 B s' s' → Calls Tryd.prog 13 #[.pointer (some ⟨g2, 0, none⟩), .int .i64 4096] wz fun e w' => e = .returned (.int .i64 Q4) ∧ SwRr w w' g1 g2 B s' s') := ⟨fun wz T => (hQ4 ▸ rr_get HS'.out.1 4096 T.y).mono (fun e w' h => ⟨h.1, T.at2 h.2.1 h.2.2.1 h.2.2.2⟩)⟩
        have hKP : ∀ wz, SwRr w wz g1 g2 B s' s' → wz.cell? ⟨g2, 3, none⟩ = some (.int .i64 G') ∧ Aside0 (SwRr w wz g1 g2 B s' s') := fun wz T => hG' ▸ T.keep
        have HKP := Aside0.mk hKP
        have u1 : IntKind.i64.wrap G' = G' := IntWalk.i64_in _ (by omega)
        clear hKP hL hLr hQ4 hG' hst' hsr' hgr hgr0 hi4
        all_goals (
          go_region_held3 (fun wz => wz.cell? ⟨g2, 3, none⟩ = some (.int .i64 G') ∧ Aside0 (SwRr w wz g1 g2 B s' s'))
            (first | exact HKP.out _ hT | exact HKP.out _ (HT.out.below (below_drew1 (Below.refl _ _))) | exact HKP.out _ (HT.out.below (below_drew1 (below_drew1 (Below.refl _ _)))))
            (first | (go_at_call 18; (go_split_ands; (with_reducible refine (PL1.out _ (Aside0.out (by assumption))).mono ?_)); rintro e w3 ⟨rfl, hT⟩) | (go_at_call 19; (go_split_ands; (with_reducible refine (PL2.out _ (Aside0.out (by assumption))).mono ?_)); rintro e w3 ⟨rfl, hT⟩) | (go_at_call 20; (go_split_ands; (with_reducible refine (PR1.out _ (Aside0.out (by assumption))).mono ?_)); rintro e w3 ⟨rfl, hT⟩) | (go_at_call 12; (go_split_ands; (with_reducible refine (PG1.out _ (Aside0.out (by assumption))).mono ?_)); rintro e w3 ⟨rfl, hT⟩) | (go_at_call 13; (go_split_ands; (with_reducible refine (PG2.out _ (Aside0.out (by assumption))).mono ?_)); rintro e w3 ⟨rfl, hT⟩)))
        all_goals (
          rename_i hH
          have HT2 := hH.2
          clear hH
          go_wp2
          go_roundw
          case rel => exact ⟨k + 1, s', by omega, by simp, HT2, HS'⟩
          case measure => simp [intOf]; omega)

      by_cases h1 : K % 3 = 1
      · 
        have hf : Int.tmod K 3 = 1 := by rw [Int.tmod_eq_emod_of_nonneg HK0.out.1]; exact h1
        obtain ⟨s', hs'⟩ : ∃ s', Rd.take B s F T N = s' := ⟨_, rfl⟩
        have HS' : Aside0 (Rd.Good s' ∧ s'.t ≤ 3 + 2 * (k + 1) ∧ s'.r ≤ 16 * (k + 1)) := ⟨by
          rw [← hs']
          refine ⟨Rd.take_good HBy.out HS.out.1 _ _ _, ?_, by rw [Rd.take_r]; have := HS.out.2.2; omega⟩
          have := (Rd.take_t B s F T N).2
          have := HS.out.2.1
          omega⟩
        have hst : s.t ≤ 9990 := by have := HS.out.2.1; omega
        have CT1 : Aside0 (∀ wz so, SwRr w wz g1 g2 B s so → Calls Tryd.prog 14 #[.pointer (some ⟨g1, 0, none⟩), .int .i64 F, .int .i64 T, .int .i64 N] wz fun e w' => e = .returned (.tuple #[]) ∧ SwRr w w' g1 g2 B s' so ∧ KeepBut wz w' g1 none) := ⟨fun wz so T => (hs' ▸ sw_take' HBy.out (by rw [HM.out]; omega) HS.out.1 hst _ _ HN0.out T.laid T.x).mono (fun e w' h => ⟨h.1, T.at1 h.2.1 h.2.2.1 h.2.2.2, h.2.2.2⟩)⟩
        have CT2 : Aside0 (∀ wz so, SwRr w wz g1 g2 B so s → Calls Tryd.prog 15 #[.pointer (some ⟨g2, 0, none⟩), .int .i64 F, .int .i64 T, .int .i64 N] wz fun e w' => e = .returned (.tuple #[]) ∧ SwRr w w' g1 g2 B so s' ∧ KeepBut wz w' g2 none) := ⟨fun wz so T => (hs' ▸ rr_take HBy.out HS.out.1 hst _ _ _ T.y).mono (fun e w' h => ⟨h.1, T.at2 h.2.1 h.2.2.1 h.2.2.2, h.2.2.2⟩)⟩
        clear hs' hst
        go_wp2_with (first
          | (go_at_call 14; (with_reducible refine (CT1.out _ _ (HT.out.below (below_alloc (Below.refl _ _) _))).mono ?_); rintro e w1 ⟨rfl, hT, hk⟩; have hv1 := keep_cell hk (a := ⟨wr.heap.size, 1, none⟩) (v := .int .i64 F) (by simp) (Nat.ne_of_gt HL1.out); have hv2 := keep_cell hk (a := ⟨wr.heap.size, 2, none⟩) (v := .int .i64 T) (by simp) (Nat.ne_of_gt HL1.out); have hv3 := keep_cell hk (a := ⟨wr.heap.size, 3, none⟩) (v := .int .i64 N) (by simp) (Nat.ne_of_gt HL1.out); clear HT hk; have HT := Aside0.mk hT; clear hT)
          | (go_at_call 14; (with_reducible refine (CT1.out _ _ (HT.out.below (below_drew1 (below_alloc (Below.refl _ _) _)))).mono ?_); rintro e w1 ⟨rfl, hT, hk⟩; have hv1 := keep_cell hk (a := ⟨wr.heap.size, 1, none⟩) (v := .int .i64 F) (by simp) (Nat.ne_of_gt HL1.out); have hv2 := keep_cell hk (a := ⟨wr.heap.size, 2, none⟩) (v := .int .i64 T) (by simp) (Nat.ne_of_gt HL1.out); have hv3 := keep_cell hk (a := ⟨wr.heap.size, 3, none⟩) (v := .int .i64 N) (by simp) (Nat.ne_of_gt HL1.out); clear HT hk; have HT := Aside0.mk hT; clear hT)
          | (go_at_call 14; (with_reducible refine (CT1.out _ _ HT.out).mono ?_); rintro e w1 ⟨rfl, hT, hk⟩; have m1 := keep_cell hk hv1 (Nat.ne_of_gt HL1.out); have m2 := keep_cell hk hv2 (Nat.ne_of_gt HL1.out); have m3 := keep_cell hk hv3 (Nat.ne_of_gt HL1.out); clear HT hk hv1 hv2 hv3; have HT := Aside0.mk hT; clear hT; have hv1 := m1; clear m1; have hv2 := m2; clear m2; have hv3 := m3; clear m3)
          | (go_at_call 15; (with_reducible refine (CT2.out _ _ HT.out).mono ?_); rintro e w1 ⟨rfl, hT, hk⟩; have m1 := keep_cell hk hv1 (Nat.ne_of_gt HL2.out); have m2 := keep_cell hk hv2 (Nat.ne_of_gt HL2.out); have m3 := keep_cell hk hv3 (Nat.ne_of_gt HL2.out); clear HT hk hv1 hv2 hv3; have HT := Aside0.mk hT; clear hT; have hv1 := m1; clear m1; have hv2 := m2; clear m2; have hv3 := m3; clear m3))
        have hst' : s'.t ≤ 10000 := by have := HS'.out.2.1; omega
        have hsr' : s'.r ≤ 100000 := by have := HS'.out.2.2; omega
        obtain ⟨L, hL⟩ : ∃ L, left B s' = L := ⟨_, rfl⟩
        have hLr : RdWalk.left B s' = L := hL
        obtain ⟨Q4, hQ4⟩ : ∃ Q4, Rd.get s' 4096 = Q4 := ⟨_, rfl⟩
        have hgr := HS'.out.1.g1
        have hgr0 := HS'.out.1.g0
        obtain ⟨G', hG'⟩ : ∃ G', s'.g = G' := ⟨_, rfl⟩
        rw [hG'] at hgr hgr0
        have hi4 : I64 4096 := by constructor <;> decide
        have PL1 : Aside0 (∀ wz, SwRr w wz g1 g2 B s' s' → Calls Tryd.prog 18 #[.pointer (some ⟨g1, 0, none⟩)] wz fun e w' => e = .returned (.int .i64 L) ∧ SwRr w w' g1 g2 B s' s') := ⟨fun wz T => (hL ▸ sw_left' (by rw [HM.out]; omega) hst' hsr' T.x).mono (fun e w' h => ⟨h.1, T.at1 h.2.1 h.2.2.1 h.2.2.2⟩)⟩
        have PL2 : Aside0 (∀ wz, SwRr w wz g1 g2 B s' s' → Calls Tryd.prog 19 #[.pointer (some ⟨g2, 0, none⟩)] wz fun e w' => e = .returned (.int .i64 L) ∧ SwRr w w' g1 g2 B s' s') := ⟨fun wz T => (hLr ▸ rr_left (by rw [HM.out]; omega) hst' hsr' T.y).mono (fun e w' h => ⟨h.1, T.at2 h.2.1 h.2.2.1 h.2.2.2⟩)⟩
        have PR1 : Aside0 (∀ wz, SwRr w wz g1 g2 B s' s' → Calls Tryd.prog 20 #[.pointer (some ⟨g1, 0, none⟩)] wz fun e w' => e = .returned (.int .u32 G') ∧ SwRr w w' g1 g2 B s' s') := ⟨fun wz T => (hG' ▸ sw_rng' T.x).mono (fun e w' h => ⟨h.1, T.at1 h.2.1 h.2.2.1 h.2.2.2⟩)⟩
        have PG1 : Aside0 (∀ wz, SwRr w wz g1 g2 B s' s' → Calls Tryd.prog 12 #[.pointer (some ⟨g1, 0, none⟩), .int .i64 4096] wz fun e w' => e = .returned (.int .i64 Q4) ∧ SwRr w w' g1 g2 B s' s') := ⟨fun wz T => (hQ4 ▸ sw_get' HS'.out.1 hi4 T.laid T.x).mono (fun e w' h => ⟨h.1, T.at1 h.2.1 h.2.2.1 h.2.2.2⟩)⟩
        have PG2 : Aside0 (∀ wz, SwRr w wz g1 g2 B s' s' → Calls Tryd.prog 13 #[.pointer (some ⟨g2, 0, none⟩), .int .i64 4096] wz fun e w' => e = .returned (.int .i64 Q4) ∧ SwRr w w' g1 g2 B s' s') := ⟨fun wz T => (hQ4 ▸ rr_get HS'.out.1 4096 T.y).mono (fun e w' h => ⟨h.1, T.at2 h.2.1 h.2.2.1 h.2.2.2⟩)⟩
        have hKP : ∀ wz, SwRr w wz g1 g2 B s' s' → wz.cell? ⟨g2, 3, none⟩ = some (.int .i64 G') ∧ Aside0 (SwRr w wz g1 g2 B s' s') := fun wz T => hG' ▸ T.keep
        have HKP := Aside0.mk hKP
        have u1 : IntKind.i64.wrap G' = G' := IntWalk.i64_in _ (by omega)
        clear hKP hL hLr hQ4 hG' hst' hsr' hgr hgr0 hi4
        all_goals (
          go_region_held3 (fun wz => wz.cell? ⟨g2, 3, none⟩ = some (.int .i64 G') ∧ Aside0 (SwRr w wz g1 g2 B s' s'))
            (first | exact HKP.out _ hT | exact HKP.out _ (HT.out.below (below_drew1 (Below.refl _ _))) | exact HKP.out _ (HT.out.below (below_drew1 (below_drew1 (Below.refl _ _)))))
            (first | (go_at_call 18; (go_split_ands; (with_reducible refine (PL1.out _ (Aside0.out (by assumption))).mono ?_)); rintro e w3 ⟨rfl, hT⟩) | (go_at_call 19; (go_split_ands; (with_reducible refine (PL2.out _ (Aside0.out (by assumption))).mono ?_)); rintro e w3 ⟨rfl, hT⟩) | (go_at_call 20; (go_split_ands; (with_reducible refine (PR1.out _ (Aside0.out (by assumption))).mono ?_)); rintro e w3 ⟨rfl, hT⟩) | (go_at_call 12; (go_split_ands; (with_reducible refine (PG1.out _ (Aside0.out (by assumption))).mono ?_)); rintro e w3 ⟨rfl, hT⟩) | (go_at_call 13; (go_split_ands; (with_reducible refine (PG2.out _ (Aside0.out (by assumption))).mono ?_)); rintro e w3 ⟨rfl, hT⟩)))
        all_goals (
          rename_i hH
          have HT2 := hH.2
          clear hH
          go_wp2
          go_roundw
          case rel => exact ⟨k + 1, s', by omega, by simp, HT2, HS'⟩
          case measure => simp [intOf]; omega)

      have hf : Int.tmod K 3 = 2 := by
        rw [Int.tmod_eq_emod_of_nonneg HK0.out.1]
        have := Int.emod_nonneg K (b := 3) (by decide)
        have := Int.emod_lt_of_pos K (b := 3) (by decide)
        omega
      obtain ⟨R, hR⟩ : ∃ R, Rd.raw B s.r (Rd.cl T) = R := ⟨_, rfl⟩
      have hRb : 0 ≤ R ∧ R < 65537 := by
        rw [← hR]
        have h1 := Rd.raw_in B s.r (Rd.cl T)
        have h2 := pow_16s (i := Rd.cl T) (Rd.cl_le T)
        omega
      have u0 : IntKind.i64.wrap R = R := IntWalk.i64_in _ (by omega)
      obtain ⟨s', hs'⟩ : ∃ s', rawn s T = s' := ⟨_, rfl⟩
      have hsz : RdWalk.rawn s T = s' := hs'
      have HS' : Aside0 (Rd.Good s' ∧ s'.t ≤ 3 + 2 * (k + 1) ∧ s'.r ≤ 16 * (k + 1)) := ⟨by
        rw [← hs']
        have h := HS.out
        have := Rd.cl_le T
        refine ⟨⟨h.1.g0, h.1.g1, h.1.v0, h.1.v1⟩, ?_, ?_⟩ <;> simp only [rawn] <;> omega⟩
      have hsr : s.r ≤ 90000 := by have := HS.out.2.2; omega
      have CW1 : Aside0 (∀ wz so, SwRr w wz g1 g2 B s so → Calls Tryd.prog 16 #[.pointer (some ⟨g1, 0, none⟩), .int .i64 T] wz fun e w' => e = .returned (.int .u32 R) ∧ SwRr w w' g1 g2 B s' so ∧ KeepBut wz w' g1 none) := ⟨fun wz so T => (hR ▸ hs' ▸ sw_raw HBy.out (by rw [HM.out]; omega) hsr _ T.x).mono (fun e w' h => ⟨h.1, T.at1 h.2.1 h.2.2.1 h.2.2.2, h.2.2.2⟩)⟩
      have CW2 : Aside0 (∀ wz so, SwRr w wz g1 g2 B so s → Calls Tryd.prog 17 #[.pointer (some ⟨g2, 0, none⟩), .int .i64 T] wz fun e w' => e = .returned (.int .i64 R) ∧ SwRr w w' g1 g2 B so s' ∧ KeepBut wz w' g2 none) := ⟨fun wz so T => (hR ▸ hsz ▸ rr_raw HBy.out (by rw [HM.out]; omega) hsr _ T.y).mono (fun e w' h => ⟨h.1, T.at2 h.2.1 h.2.2.1 h.2.2.2, h.2.2.2⟩)⟩
      clear hR hs' hsz hsr hRb
      have hst' : s'.t ≤ 10000 := by have := HS'.out.2.1; omega
      have hsr' : s'.r ≤ 100000 := by have := HS'.out.2.2; omega
      obtain ⟨L, hL⟩ : ∃ L, left B s' = L := ⟨_, rfl⟩
      have hLr : RdWalk.left B s' = L := hL
      obtain ⟨Q4, hQ4⟩ : ∃ Q4, Rd.get s' 4096 = Q4 := ⟨_, rfl⟩
      have hgr := HS'.out.1.g1
      have hgr0 := HS'.out.1.g0
      obtain ⟨G', hG'⟩ : ∃ G', s'.g = G' := ⟨_, rfl⟩
      rw [hG'] at hgr hgr0
      have hi4 : I64 4096 := by constructor <;> decide
      have PL1 : Aside0 (∀ wz, SwRr w wz g1 g2 B s' s' → Calls Tryd.prog 18 #[.pointer (some ⟨g1, 0, none⟩)] wz fun e w' => e = .returned (.int .i64 L) ∧ SwRr w w' g1 g2 B s' s') := ⟨fun wz T => (hL ▸ sw_left' (by rw [HM.out]; omega) hst' hsr' T.x).mono (fun e w' h => ⟨h.1, T.at1 h.2.1 h.2.2.1 h.2.2.2⟩)⟩
      have PL2 : Aside0 (∀ wz, SwRr w wz g1 g2 B s' s' → Calls Tryd.prog 19 #[.pointer (some ⟨g2, 0, none⟩)] wz fun e w' => e = .returned (.int .i64 L) ∧ SwRr w w' g1 g2 B s' s') := ⟨fun wz T => (hLr ▸ rr_left (by rw [HM.out]; omega) hst' hsr' T.y).mono (fun e w' h => ⟨h.1, T.at2 h.2.1 h.2.2.1 h.2.2.2⟩)⟩
      have PR1 : Aside0 (∀ wz, SwRr w wz g1 g2 B s' s' → Calls Tryd.prog 20 #[.pointer (some ⟨g1, 0, none⟩)] wz fun e w' => e = .returned (.int .u32 G') ∧ SwRr w w' g1 g2 B s' s') := ⟨fun wz T => (hG' ▸ sw_rng' T.x).mono (fun e w' h => ⟨h.1, T.at1 h.2.1 h.2.2.1 h.2.2.2⟩)⟩
      have PG1 : Aside0 (∀ wz, SwRr w wz g1 g2 B s' s' → Calls Tryd.prog 12 #[.pointer (some ⟨g1, 0, none⟩), .int .i64 4096] wz fun e w' => e = .returned (.int .i64 Q4) ∧ SwRr w w' g1 g2 B s' s') := ⟨fun wz T => (hQ4 ▸ sw_get' HS'.out.1 hi4 T.laid T.x).mono (fun e w' h => ⟨h.1, T.at1 h.2.1 h.2.2.1 h.2.2.2⟩)⟩
      have PG2 : Aside0 (∀ wz, SwRr w wz g1 g2 B s' s' → Calls Tryd.prog 13 #[.pointer (some ⟨g2, 0, none⟩), .int .i64 4096] wz fun e w' => e = .returned (.int .i64 Q4) ∧ SwRr w w' g1 g2 B s' s') := ⟨fun wz T => (hQ4 ▸ rr_get HS'.out.1 4096 T.y).mono (fun e w' h => ⟨h.1, T.at2 h.2.1 h.2.2.1 h.2.2.2⟩)⟩
      have hKP : ∀ wz, SwRr w wz g1 g2 B s' s' → wz.cell? ⟨g2, 3, none⟩ = some (.int .i64 G') ∧ Aside0 (SwRr w wz g1 g2 B s' s') := fun wz T => hG' ▸ T.keep
      have HKP := Aside0.mk hKP
      have u1 : IntKind.i64.wrap G' = G' := IntWalk.i64_in _ (by omega)
      clear hKP hL hLr hQ4 hG' hst' hsr' hgr hgr0 hi4
      go_wp2
      go_region_with (first
        | (go_at_call 16; (with_reducible refine (CW1.out _ _ (HT.out.below (below_alloc (Below.refl _ _) _))).mono ?_); rintro e w1 ⟨rfl, hT, hk⟩; have hv1 := keep_cell hk (a := ⟨wr.heap.size, 1, none⟩) (v := .int .i64 F) (by simp) (Nat.ne_of_gt HL1.out); have hv2 := keep_cell hk (a := ⟨wr.heap.size, 2, none⟩) (v := .int .i64 T) (by simp) (Nat.ne_of_gt HL1.out); have hv3 := keep_cell hk (a := ⟨wr.heap.size, 3, none⟩) (v := .int .i64 N) (by simp) (Nat.ne_of_gt HL1.out); clear HT hk; have HT := Aside0.mk hT; clear hT)
        | (go_at_call 16; (with_reducible refine (CW1.out _ _ (HT.out.below (below_drew1 (below_alloc (Below.refl _ _) _)))).mono ?_); rintro e w1 ⟨rfl, hT, hk⟩; have hv1 := keep_cell hk (a := ⟨wr.heap.size, 1, none⟩) (v := .int .i64 F) (by simp) (Nat.ne_of_gt HL1.out); have hv2 := keep_cell hk (a := ⟨wr.heap.size, 2, none⟩) (v := .int .i64 T) (by simp) (Nat.ne_of_gt HL1.out); have hv3 := keep_cell hk (a := ⟨wr.heap.size, 3, none⟩) (v := .int .i64 N) (by simp) (Nat.ne_of_gt HL1.out); clear HT hk; have HT := Aside0.mk hT; clear hT)
        | (go_at_call 16; (with_reducible refine (CW1.out _ _ HT.out).mono ?_); rintro e w1 ⟨rfl, hT, hk⟩; have m1 := keep_cell hk hv1 (Nat.ne_of_gt HL1.out); have m2 := keep_cell hk hv2 (Nat.ne_of_gt HL1.out); have m3 := keep_cell hk hv3 (Nat.ne_of_gt HL1.out); clear HT hk hv1 hv2 hv3; have HT := Aside0.mk hT; clear hT; have hv1 := m1; clear m1; have hv2 := m2; clear m2; have hv3 := m3; clear m3)
        | (go_at_call 17; (with_reducible refine (CW2.out _ _ (HT.out.below (below_alloc (Below.refl _ _) _))).mono ?_); rintro e w1 ⟨rfl, hT, hk⟩; have hv1 := keep_cell hk (a := ⟨wr.heap.size, 1, none⟩) (v := .int .i64 F) (by simp) (Nat.ne_of_gt HL2.out); have hv2 := keep_cell hk (a := ⟨wr.heap.size, 2, none⟩) (v := .int .i64 T) (by simp) (Nat.ne_of_gt HL2.out); have hv3 := keep_cell hk (a := ⟨wr.heap.size, 3, none⟩) (v := .int .i64 N) (by simp) (Nat.ne_of_gt HL2.out); clear HT hk; have HT := Aside0.mk hT; clear hT)
        | (go_at_call 17; (with_reducible refine (CW2.out _ _ (HT.out.below (below_drew1 (below_alloc (Below.refl _ _) _)))).mono ?_); rintro e w1 ⟨rfl, hT, hk⟩; have hv1 := keep_cell hk (a := ⟨wr.heap.size, 1, none⟩) (v := .int .i64 F) (by simp) (Nat.ne_of_gt HL2.out); have hv2 := keep_cell hk (a := ⟨wr.heap.size, 2, none⟩) (v := .int .i64 T) (by simp) (Nat.ne_of_gt HL2.out); have hv3 := keep_cell hk (a := ⟨wr.heap.size, 3, none⟩) (v := .int .i64 N) (by simp) (Nat.ne_of_gt HL2.out); clear HT hk; have HT := Aside0.mk hT; clear hT)
        | (go_at_call 17; (with_reducible refine (CW2.out _ _ HT.out).mono ?_); rintro e w1 ⟨rfl, hT, hk⟩; have m1 := keep_cell hk hv1 (Nat.ne_of_gt HL2.out); have m2 := keep_cell hk hv2 (Nat.ne_of_gt HL2.out); have m3 := keep_cell hk hv3 (Nat.ne_of_gt HL2.out); clear HT hk hv1 hv2 hv3; have HT := Aside0.mk hT; clear hT; have hv1 := m1; clear m1; have hv2 := m2; clear m2; have hv3 := m3; clear m3))
      all_goals go_wp2
      all_goals (
        go_region_held3 (fun wz => wz.cell? ⟨g2, 3, none⟩ = some (.int .i64 G') ∧ Aside0 (SwRr w wz g1 g2 B s' s'))
          (first | exact HKP.out _ hT | exact HKP.out _ (HT.out.below (below_drew1 (Below.refl _ _))) | exact HKP.out _ (HT.out.below (below_drew1 (below_drew1 (Below.refl _ _)))))
          (first | (go_at_call 18; (go_split_ands; (with_reducible refine (PL1.out _ (Aside0.out (by assumption))).mono ?_)); rintro e w3 ⟨rfl, hT⟩) | (go_at_call 19; (go_split_ands; (with_reducible refine (PL2.out _ (Aside0.out (by assumption))).mono ?_)); rintro e w3 ⟨rfl, hT⟩) | (go_at_call 20; (go_split_ands; (with_reducible refine (PR1.out _ (Aside0.out (by assumption))).mono ?_)); rintro e w3 ⟨rfl, hT⟩) | (go_at_call 12; (go_split_ands; (with_reducible refine (PG1.out _ (Aside0.out (by assumption))).mono ?_)); rintro e w3 ⟨rfl, hT⟩) | (go_at_call 13; (go_split_ands; (with_reducible refine (PG2.out _ (Aside0.out (by assumption))).mono ?_)); rintro e w3 ⟨rfl, hT⟩)))
      all_goals (
        rename_i hH
        have HT2 := hH.2
        clear hH
        go_wp2
        go_roundw
        case rel => exact ⟨k + 1, s', by omega, by simp, HT2, HS'⟩
        case measure => simp [intOf]; omega)

    · go_wp2
      go_ret
      exact ⟨rfl, HT.out.hb⟩
set_option maxHeartbeats 4000000 in
set_option maxRecDepth 100000 in
theorem plays_long (A0 : Option Addr) (m c0 : Nat) (A1 : Option Addr) (n c1 : Nat) (w : World) (hLd : Laid w) (hl : ∀ w, Calls Tryd.prog 9 #[.slice A0 m c0, .slice A1 n c1] w fun e w' => e = .returned (.bool true) ∧ Below w.heap.size w w') :
    Calls Tryd.prog 3 #[.slice A0 m c0, .slice A1 n c1] w fun e w' => e = .returned (.bool true) ∧ Below w.heap.size w w' := by
  have HB := Aside0.mk (Below.refl w.heap.size w)
  have HLD := Aside0.mk hLd
  have HLG := Aside0.mk hl
  clear hLd hl
  go_enter Tryd.func3, Tryd.ntmps3
  go_wp2_with (first
    | (go_at_call 8; (with_reducible refine (awake_any _ (HLD.out.below HB.out)).mono ?_); rintro e wa ⟨rfl, hb⟩; have HB1 := Aside0.mk (below_step HB.out hb); clear HB hb; have HB := HB1; clear HB1)
    | (go_at_call 9; (with_reducible refine (HLG.out _).mono ?_); rintro e wl ⟨rfl, hb⟩; have HB1 := Aside0.mk (below_step HB.out hb); clear HB hb; have HB := HB1; clear HB1))
  go_ret
  exact ⟨rfl, HB.out⟩
theorem plays_row (a0 : Option Addr) (len0 cap0 : Nat) (z0 : List Int) (a1 : Option Addr) (len1 cap1 : Nat) (z1 : List (List Int)) (w : World) (hLd : Laid w) (w0 : (a0 = none ∧ len0 = 0 ∧ cap0 = 0 ∧ z0 = []) ∨ ∃ x, a0 = some x ∧ len0 ≤ cap0 ∧ cap0 ≤ maxLen ∧ z0.length = cap0 ∧ (∀ i, i < z0.length → w.cell? (x.add i) = some (.int .u8 (z0.getD i 0))) ∧ ∀ n ∈ z0, (Lit.int .u8 n).wf = true) (w1 : StructRows.Rows [.u8, .i64, .i64, .i64] w a1 len1 cap1 z1) :
    Calls Tryd.prog 3 #[.slice a0 len0 cap0, .slice a1 len1 cap1] w fun e w' => e = .returned (.bool true) ∧ Below w.heap.size w w' := by
  obtain ⟨l0, rfl, hr0, hm0, hw0, hc0⟩ := ReadsInt.ofRowC w0
  obtain ⟨hD, _, hop⟩ := ops31 w1
  by_cases hm : l0.length ≤ 1300
  · by_cases hn : len1 ≤ 200
    · exact plays_at l0 _ (z1.map to31) len1 rfl (fun x h => Math.wf_u8 (hw0 x h)) hm hD.1 hn (fun o ho => ⟨Math.wf_u8 (hop o ho).1, Math.wf_i64 (hop o ho).2.1, Math.wf_i64 (hop o ho).2.2.1, Math.wf_i64 (hop o ho).2.2.2⟩) a0 cap0 a1 cap1 w hLd (Kd.C_of_reads (d := (0 : Int)) (h1 := fun _ => rfl) hr0) hc0 hD
    · exact plays_long _ _ _ _ _ _ w hLd (fun w => long_2 _ _ _ _ _ _ w (decide_eq_false (by omega)) (decide_eq_true (by omega)))
  · exact plays_long _ _ _ _ _ _ w hLd (fun w => long_1 _ _ _ _ _ _ w (decide_eq_true (by omega)))
end Go.Proofs.YtdfgoahfaebooaaDoor.SwLaw
