import Derived.Test.YtdfgoahfaebooaaDoorSwTwo
namespace Go.Proofs.YtdfgoahfaebooaaDoor.SwWalk
open Go.RowKit Go.Proofs.YtdfgoahfaebooaaDoorW.PrintWords Go.Proofs.YtdfgoahfaebooaaDoorW.PrintLast Go.Proofs.YtdfgoahfaebooaaDoorW.PrintMore
open Go.Proofs.YtdfgoahfaebooaaDoor.Rd (St by_ Bytes)
set_option linter.unusedVariables false
set_option linter.unusedSimpArgs false
/-! #### struct type 31 -/
structure S31 where
  f0 : Int
  f1 : Int
  f2 : Int
  f3 : Int
def z31 : S31 := ⟨(0 : Int), (0 : Int), (0 : Int), (0 : Int)⟩
def k31 : Kd S31 := Kd.iso (Kd.pair (Kd.int .u8) (Kd.pair (Kd.int .i64) (Kd.pair (Kd.int .i64) (Kd.int .i64)))) (fun x : S31 => (x.f0, x.f1, x.f2, x.f3))
theorem k31_open {w : World} {x : S31} {cs : List Value} (h : k31.K w x cs) : cs = [.int .u8 x.f0, .int .i64 x.f1, .int .i64 x.f2, .int .i64 x.f3] := by
  obtain ⟨_, _, rfl, rfl, ⟨_, _, rfl, rfl, ⟨_, _, rfl, rfl, rfl⟩⟩⟩ := h
  exact rfl
theorem k31_openM {w : World} {base : Nat} {ok : Nat → Prop} {x : S31} {cs : List Value} (h : k31.M w base ok x cs) : cs = [.int .u8 x.f0, .int .i64 x.f1, .int .i64 x.f2, .int .i64 x.f3] := by
  obtain ⟨_, _, rfl, rfl, ⟨_, _, rfl, rfl, ⟨_, _, rfl, rfl, rfl⟩⟩⟩ := h
  exact rfl
theorem k31_mk (w : World) (x : S31)  : k31.K w x [.int .u8 x.f0, .int .i64 x.f1, .int .i64 x.f2, .int .i64 x.f3] := ⟨[.int .u8 x.f0], [.int .i64 x.f1, .int .i64 x.f2, .int .i64 x.f3], rfl, rfl, ⟨[.int .i64 x.f1], [.int .i64 x.f2, .int .i64 x.f3], rfl, rfl, ⟨[.int .i64 x.f2], [.int .i64 x.f3], rfl, rfl, rfl⟩⟩⟩
theorem k31_mkM (w : World) (base : Nat) (ok : Nat → Prop) (x : S31)  : k31.M w base ok x [.int .u8 x.f0, .int .i64 x.f1, .int .i64 x.f2, .int .i64 x.f3] := ⟨[.int .u8 x.f0], [.int .i64 x.f1, .int .i64 x.f2, .int .i64 x.f3], rfl, rfl, ⟨[.int .i64 x.f1], [.int .i64 x.f2, .int .i64 x.f3], rfl, rfl, ⟨[.int .i64 x.f2], [.int .i64 x.f3], rfl, rfl, rfl⟩⟩⟩
def rd_T31 (xs : List S31) (i : Int) : S31 := xs.getD i.toNat z31
theorem at_T31 {w : World} {A : Option Addr} {n : Nat} {xs : List S31} (h : Kd.C k31 w A n xs) (i : Int) (h0 : 0 ≤ i) (h1 : i < n) : ∃ ad , A = some ad ∧ w.cell? (ad.add (i.toNat * 4)) = some (.int .u8 (rd_T31 xs i).f0) ∧ w.cell? ⟨(ad.add (i.toNat * 4)).block, (ad.add (i.toNat * 4)).off + 1, none⟩ = some (.int .i64 (rd_T31 xs i).f1) ∧ w.cell? ⟨(ad.add (i.toNat * 4)).block, (ad.add (i.toNat * 4)).off + 2, none⟩ = some (.int .i64 (rd_T31 xs i).f2) ∧ w.cell? ⟨(ad.add (i.toNat * 4)).block, (ad.add (i.toNat * 4)).off + 3, none⟩ = some (.int .i64 (rd_T31 xs i).f3) := by
  obtain ⟨ad, c, e, _, hK, hc0⟩ := Kd.C_get h z31 i h0 h1
  have hc : ∀ j u, c[j]? = some u → w.cell? (ad.add (i.toNat * 4 + j)) = some u := hc0
  obtain rfl := k31_open hK
  exact ⟨ad, e, hc 0 _ rfl, by rw [← add_field _ _ 1 (by omega)]; exact hc 1 _ rfl, by rw [← add_field _ _ 2 (by omega)]; exact hc 2 _ rfl, by rw [← add_field _ _ 3 (by omega)]; exact hc 3 _ rfl⟩

/-- An element out of its numbers. -/
def to31 (z : List Int) : S31 := ⟨z.getD 0 0, z.getD 1 0, z.getD 2 0, z.getD 3 0⟩
theorem ops31 {w : World} {A : Option Addr} {len cap : Nat} {zs : List (List Int)} (h : StructRows.Rows [.u8, .i64, .i64, .i64] w A len cap zs) : Kd.C k31 w A len (zs.map to31) ∧ len ≤ cap ∧ ∀ x ∈ zs.map to31, (Lit.int .u8 x.f0).wf = true ∧ (Lit.int .i64 x.f1).wf = true ∧ (Lit.int .i64 x.f2).wf = true ∧ (Lit.int .i64 x.f3).wf = true := by
  obtain ⟨h1, h2, h3, h4, h5⟩ := h
  refine ⟨⟨by simpa using h2, h3, fun hn => ?_⟩, h1, fun x hx => ?_⟩
  · obtain ⟨ad, e, hc⟩ := h5 hn
    refine ⟨ad, e, fun j p hj => ?_⟩
    rw [List.getElem?_map] at hj
    obtain ⟨z, hz, rfl⟩ := Option.map_eq_some_iff.1 hj
    refine ⟨_, rfl, k31_mk w (to31 z), fun i u hu => ?_⟩
    rcases i with _ | _ | _ | _ | i <;> simp at hu
    · subst hu; exact hc j z hz 0 _ rfl
    · subst hu; exact hc j z hz 1 _ rfl
    · subst hu; exact hc j z hz 2 _ rfl
    · subst hu; exact hc j z hz 3 _ rfl
  · obtain ⟨z, hz, rfl⟩ := List.mem_map.1 hx
    have := h4 z hz
    exact ⟨this 0 _ rfl, this 1 _ rfl, this 2 _ rfl, this 3 _ rfl⟩
theorem SwW.lt {base g : Nat} {w : World} {B : List Int} {s : St} (H : SwW base w g B s) : g < w.heap.size := H.elim fun _ h => h.1.lt
theorem SwW.ge {base g : Nat} {w : World} {B : List Int} {s : St} (H : SwW base w g B s) : base ≤ g := H.elim fun _ h => h.1.ge
theorem SwW.block {base g : Nat} {w : World} {B : List Int} {s : St} (H : SwW base w g B s) : ∃ cs, w.heap[g]? = some (.cells cs 59 (0, 0)) := H.elim fun _ h => h.1.block
theorem SwW.below {base g : Nat} {w w' : World} {B : List Int} {s : St} (H : SwW base w g B s) (hb : Below w.heap.size w w') : SwW base w' g B s := H.elim fun k h => ⟨k, h.1.below hb, h.2⟩
theorem SwW.move {base g g' : Nat} {w w' : World} {B : List Int} {s : St} (H : SwW base w g B s) (hk : KeepBut w w' g' none) (hne : g ≠ g') {t : TypeId} (hb : ∃ cs, w.heap[g']? = some (.cells cs t (0, 0))) (ht : (5 : Nat) ≠ t) : SwW base w' g B s := by
  obtain ⟨k, h, hw⟩ := H
  obtain ⟨cs, hb⟩ := hb
  exact ⟨k, h.move hk hne hb ht, hw⟩
theorem SwW.noByte {base g : Nat} {w : World} {B : List Int} {s : St} (H : SwW base w g B s) : ∀ (a : Addr) (x : Int), a.block = g → w.cell? a ≠ some (.int .u8 x) := by
  obtain ⟨k, ⟨A0, c0, hg, _, _⟩, _⟩ := H
  rintro ⟨b, o, p⟩ x rfl hc
  simp only [World.cell?, hg] at hc
  revert hc
  rcases o with _ | _ | _ | _ | _ | _ | _ | _ | _ | o <;> cases p <;> simp
theorem sw_get' {base g : Nat} {B : List Int} {s : St} (hs : Rd.Good s) {n : Int} (hn : I64 n) {w : World} (hL : Laid w) (H : SwW base w g B s) :
    Calls Tryd.prog 12 #[.pointer (some ⟨g, 0, none⟩), .int .i64 n] w fun e w' => e = .returned (.int .i64 (Rd.get s n)) ∧ SwW base w' g B s ∧ Below g w w' ∧ KeepBut w w' g none := by
  obtain ⟨h, H, hw⟩ := H
  exact (sw_get hs hn hL H).mono fun e w' k => ⟨k.1, ⟨h, k.2.1, hw⟩, k.2.2⟩
theorem sw_left' {base g : Nat} {B : List Int} (hl : B.length ≤ 10000) {s : St} (ht : s.t ≤ 10000) (hr : s.r ≤ 100000) {w : World} (H : SwW base w g B s) :
    Calls Tryd.prog 18 #[.pointer (some ⟨g, 0, none⟩)] w fun e w' => e = .returned (.int .i64 (left B s)) ∧ SwW base w' g B s ∧ Below g w w' ∧ KeepBut w w' g none := by
  obtain ⟨h, H, hw⟩ := H
  exact (sw_left hl ht hr H).mono fun e w' k => ⟨k.1, ⟨h, k.2.1, hw⟩, k.2.2⟩
theorem sw_rng' {base g : Nat} {B : List Int} {s : St} {w : World} (H : SwW base w g B s) :
    Calls Tryd.prog 20 #[.pointer (some ⟨g, 0, none⟩)] w fun e w' => e = .returned (.int .u32 s.g) ∧ SwW base w' g B s ∧ Below g w w' ∧ KeepBut w w' g none := by
  obtain ⟨h, H, hw⟩ := H
  exact (sw_rng H).mono fun e w' k => ⟨k.1, ⟨h, k.2.1, hw⟩, k.2.2⟩
theorem sw_take' {base g : Nat} {B : List Int} (hB : Bytes B) (hl : B.length ≤ 10000) {s : St} (hs : Rd.Good s) (ht : s.t ≤ 9990) (a b : Int) {n : Int} (hn : I64 n) {w : World} (hL : Laid w) (H : SwW base w g B s) :
    Calls Tryd.prog 14 #[.pointer (some ⟨g, 0, none⟩), .int .i64 a, .int .i64 b, .int .i64 n] w fun e w' => e = .returned (.tuple #[]) ∧ SwW base w' g B (Rd.take B s a b n) ∧ Below g w w' ∧ KeepBut w w' g none := by
  obtain ⟨h, H, hw⟩ := H
  exact (sw_take hB hl hs ht a b hn hL H).mono fun e w' k => ⟨k.1, ⟨h, k.2.1, ⟨by rw [Rd.take_r]; exact hw.m8, hw.h7⟩⟩, k.2.2⟩
theorem SwAt.w0 {base g : Nat} {B : List Int} {w : World} (H : SwAt base w g B (Rd.new B) 0) : SwW base w g B (Rd.new B) := ⟨0, H, ⟨rfl, by decide⟩⟩
/-- Two readers side by side. -/
structure TwoW (w0 w : World) (g1 g2 : Nat) (B : List Int) (s1 s2 : St) : Prop where
  x : SwW w0.heap.size w g1 B s1
  y : SwW w0.heap.size w g2 B s2
  ne : g1 ≠ g2
  h2 : w0.heap.size ≤ g2
  hb : Below w0.heap.size w0 w
  hL : Laid w0
section
variable {w0 w w' : World} {g1 g2 : Nat} {B : List Int} {s1 s2 s' : St}
theorem TwoW.at1 (T : TwoW w0 w g1 g2 B s1 s2) (hI : SwW w0.heap.size w' g1 B s') (hb : Below g1 w w') (hk : KeepBut w w' g1 none) : TwoW w0 w' g1 g2 B s' s2 :=
  ⟨hI, T.y.move hk (Ne.symm T.ne) T.x.block (by decide), T.ne, T.h2, T.hb.trans (hb.mono T.x.ge), T.hL⟩
theorem TwoW.at2 (T : TwoW w0 w g1 g2 B s1 s2) (hI : SwW w0.heap.size w' g2 B s') (hb : Below g2 w w') (hk : KeepBut w w' g2 none) : TwoW w0 w' g1 g2 B s1 s' :=
  ⟨T.x.move hk T.ne (T.y.block) (by decide), hI, T.ne, T.h2, T.hb.trans (hb.mono T.h2), T.hL⟩
theorem TwoW.below (T : TwoW w0 w g1 g2 B s1 s2) (hb : Below w.heap.size w w') : TwoW w0 w' g1 g2 B s1 s2 :=
  ⟨T.x.below hb, T.y.below hb, T.ne, T.h2, T.hb.trans (hb.mono (Nat.le_trans T.x.ge (Nat.le_of_lt T.x.lt))), T.hL⟩
theorem TwoW.laid (T : TwoW w0 w g1 g2 B s1 s2) : Laid w := T.hL.below T.hb
theorem TwoW.lt1 (T : TwoW w0 w g1 g2 B s1 s2) : g1 < w.heap.size := T.x.lt
theorem TwoW.lt2 (T : TwoW w0 w g1 g2 B s1 s2) : g2 < w.heap.size := T.y.lt
end
end Go.Proofs.YtdfgoahfaebooaaDoor.SwWalk
