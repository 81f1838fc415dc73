import Derived.Test.YtdfgoahfaebooaaDoorSwTake
import Derived.Test.YtdfgoahfaebooaaDoorSwNew
import Derived.Test.YtdfgoahfaebooaaDoorStructRows
namespace Go.Proofs.YtdfgoahfaebooaaDoor.SwWalk
open Go.RowKit Go.Proofs.YtdfgoahfaebooaaDoorW.PrintWords Go.Proofs.YtdfgoahfaebooaaDoorW.PrintLast Go.Proofs.YtdfgoahfaebooaaDoorW.PrintMore
open Go.Proofs.YtdfgoahfaebooaaDoor.Rd (St by_ Bytes)
set_option linter.unusedVariables false
set_option linter.unusedSimpArgs false
theorem SwAt.lower {base base' g h : Nat} {w : World} {B : List Int} {s : St} (H : SwAt base w g B s h) (hb : base' ≤ base) : SwAt base' w g B s h := by
  obtain ⟨A, c, hg, hge, hR⟩ := H
  exact ⟨A, c, hg, Nat.le_trans hb hge, Kd.R_lower hR hb⟩
set_option maxHeartbeats 1000000 in
set_option maxRecDepth 100000 in
theorem new_any (B : List Int) (hB : Bytes B) (m : Nat) (hm : B.length = m) (hl : m ≤ 10000) (A0 : Option Addr) (c0 : Nat) (w : World) (hC : Kd.C (Kd.int .u8) w A0 m B) (hc : m ≤ c0) :
    Calls Tryd.prog 10 #[.slice A0 m c0] w fun e w' => ∃ g, e = .returned (.pointer (some ⟨g, 0, none⟩)) ∧ SwAt w.heap.size w' g B (Rd.new B) 0 ∧ Below w.heap.size w w' := by
  have HR : Aside0 (∀ w1, w1.heap[w.heap.size]? = some (.cells #[.slice none 0 0, .int .i64 0, .int .i64 0, .int .i64 0, .int .u32 0, .int .u32 0, .int .u64 0, .int .i64 0, .int .i64 0] 59 (0, 0)) → Kd.C (Kd.int .u8) w1 A0 m B → Calls Tryd.prog 21 #[.pointer (some ⟨w.heap.size, 0, none⟩), .slice A0 m c0] w1 fun e w' => e = .returned (.tuple #[]) ∧ SwAt w.heap.size w' w.heap.size B (Rd.new B) 0 ∧ Below w.heap.size w1 w') :=
    ⟨fun w1 hg hC => reset_nil w.heap.size w.heap.size B hB m hm hl A0 c0 0 0 0 0 0 0 0 0 w1 (Nat.le_refl _) hg hC hc (Kd.R_nil _ _ _ _ _)⟩
  have HG : Aside0 ((w.alloc (.cells #[.slice none 0 0, .int .i64 0, .int .i64 0, .int .i64 0, .int .u32 0, .int .u32 0, .int .u64 0, .int .i64 0, .int .i64 0] 59)).heap[w.heap.size]? = some (.cells #[.slice none 0 0, .int .i64 0, .int .i64 0, .int .i64 0, .int .u32 0, .int .u32 0, .int .u64 0, .int .i64 0, .int .i64 0] 59 (0, 0))) := ⟨by simpa using heap_alloc_new w _⟩
  have HC : Aside0 (Kd.C (Kd.int .u8) (w.alloc (.cells #[.slice none 0 0, .int .i64 0, .int .i64 0, .int .i64 0, .int .u32 0, .int .u32 0, .int .u64 0, .int .i64 0, .int .i64 0] 59)) A0 m B) := ⟨Kd.C_below hC (below_alloc (Below.refl _ _) _)⟩
  have HB : Aside0 (Below w.heap.size w (w.alloc (.cells #[.slice none 0 0, .int .i64 0, .int .i64 0, .int .i64 0, .int .u32 0, .int .u32 0, .int .u64 0, .int .i64 0, .int .i64 0] 59))) := ⟨below_alloc (Below.refl _ _) _⟩
  clear hC hm hB
  go_enter Tryd.func10, Tryd.ntmps10
  go_wp2_with (first | (go_at_call 21; (with_reducible refine (HR.out _ HG.out HC.out).mono ?_); rintro e w1 ⟨rfl, hI, hb⟩; have HI := Aside0.mk hI; have HB1 := Aside0.mk (HB.out.trans hb); clear hI hb))
  go_ret
  exact ⟨w.heap.size, rfl, HI.out, HB1.out⟩
theorem reset_any (base g h : Nat) (B B' : List Int) (hB : Bytes B) (m : Nat) (hm : B.length = m) (hl : m ≤ 10000) (A0 : Option Addr) (c0 : Nat) (s : St) (w : World) (H : SwAt base w g B' s h) (hC : Kd.C (Kd.int .u8) w A0 m B) (hc : m ≤ c0) :
    Calls Tryd.prog 21 #[.pointer (some ⟨g, 0, none⟩), .slice A0 m c0] w fun e w' => e = .returned (.tuple #[]) ∧ SwAt base w' g B (Rd.new B) 0 ∧ Below base w w' := by
  obtain ⟨gb, c9, hg, hne, hge, hR, _⟩ := H.own B'.length rfl
  have h9 : Kd.R (Kd.int .u8) 5 w base (fun k => k ≠ g) (.slice (some ⟨gb, 0, none⟩) 0 c9) [] := by
    have h := Kd.R_take hR (m := 0) (by omega)
    simpa using h
  exact reset_own base g B hB m hm hl A0 c0 gb (B'.length + 3) c9 _ _ _ _ _ _ _ _ w hge hg hC hc h9
/-- Two swift readers side by side. -/
structure TwoS (b : Nat) (w0 w : World) (g1 g2 : Nat) (B1 B2 : List Int) (s1 s2 : St) (h1 h2 : Nat) : Prop where
  x : SwAt b w g1 B1 s1 h1
  y : SwAt b w g2 B2 s2 h2
  ne : g1 ≠ g2
  hb : Below b w0 w
section
variable {b : Nat} {w0 w w' : World} {g1 g2 : Nat} {B1 B2 : List Int} {s1 s2 s' : St} {h1 h2 h' : Nat}
theorem TwoS.at1 (T : TwoS b w0 w g1 g2 B1 B2 s1 s2 h1 h2) (hI : SwAt b w' g1 B1 s' h') (hb : Below g1 w w') (hk : KeepBut w w' g1 none) : TwoS b w0 w' g1 g2 B1 B2 s' s2 h' h2 := by
  obtain ⟨cs, hc⟩ := T.x.block
  exact ⟨hI, T.y.move hk (Ne.symm T.ne) hc (by decide), T.ne, T.hb.trans (hb.mono T.x.ge)⟩
theorem TwoS.at2 (T : TwoS b w0 w g1 g2 B1 B2 s1 s2 h1 h2) (hI : SwAt b w' g2 B2 s' h') (hb : Below g2 w w') (hk : KeepBut w w' g2 none) : TwoS b w0 w' g1 g2 B1 B2 s1 s' h1 h' := by
  obtain ⟨cs, hc⟩ := T.y.block
  exact ⟨T.x.move hk T.ne hc (by decide), hI, T.ne, T.hb.trans (hb.mono T.y.ge)⟩
theorem TwoS.below (T : TwoS b w0 w g1 g2 B1 B2 s1 s2 h1 h2) (hb : Below w.heap.size w w') : TwoS b w0 w' g1 g2 B1 B2 s1 s2 h1 h2 :=
  ⟨T.x.below hb, T.y.below hb, T.ne, T.hb.trans (hb.mono (Nat.le_trans T.x.ge (Nat.le_of_lt T.x.lt)))⟩
end
def ex : List Int := [128, 0, 0, 0]
theorem ex_get : Rd.get (Rd.new ex) 2 = 1 := by decide
theorem ex_good : Rd.Good (Rd.new ex) := Rd.new_good (by decide)
set_option maxHeartbeats 2000000 in
set_option maxRecDepth 100000 in
theorem awake_any (w : World) (hL : Laid w) : Calls Tryd.prog 8 #[] w fun e w' => e = .returned (.bool true) ∧ Below w.heap.size w w' := by
  have HB := Aside0.mk (Below.refl w.heap.size w)
  have HL := Aside0.mk hL
  have HO : Aside0 (Kd.R (Kd.int .u8) 5 (w.alloc (Obj.cells #[.int .u8 128, .int .u8 0, .int .u8 0, .int .u8 0] 5)) w.heap.size (fun _ => True) (.slice (some ⟨w.heap.size, 0, none⟩) 4 4) ex) := ⟨Kd.R_of_own (own_lit w w.heap.size 5 .u8 ex (Nat.le_refl _) (by decide)) (fun _ _ => trivial)⟩
  have HC : Aside0 (Kd.C (Kd.int .u8) (w.alloc (Obj.cells #[.int .u8 128, .int .u8 0, .int .u8 0, .int .u8 0] 5)) (some ⟨w.heap.size, 0, none⟩) 4 ex) := ⟨(Kd.R_reads' HO.out).2.2⟩
  have hx := Aside0.mk ex_good
  have he := Aside0.mk ex_get
  clear hL
  go_enter Tryd.func8, Tryd.ntmps8
  go_wp2_with (first
    | (go_at_call 10; (with_reducible refine (new_any ex (by decide) 4 rfl (by decide) _ 4 _ HC.out (by decide)).mono ?_); rintro e w1 ⟨g, rfl, hI, hb⟩; have HI := Aside0.mk hI; have HB1 := Aside0.mk (below_step (below_alloc HB.out _) hb); clear hI hb)
    | (go_at_call 12; (with_reducible refine (get_any _ _ _ ex _ hx.out 2 (by decide) _ (HL.out.below HB1.out) HI.out).mono ?_); rintro e w2 ⟨rfl, hb⟩; have HB2 := Aside0.mk (below_step HB1.out hb); clear hb))
  go_ret
  exact ⟨congrArg Ending.returned (congrArg Value.bool (by rw [he.out]; rfl)), HB2.out⟩
set_option maxHeartbeats 2000000 in
set_option maxRecDepth 100000 in
theorem long_no (A0 : Option Addr) (m c0 : Nat) (A1 : Option Addr) (n c1 : Nat) (w : World) (hd1 : decide ((1300 : Int) < (m : Int)) = false) (hd2 : decide ((200 : Int) < (n : Int)) = false) :
    Calls Tryd.prog 9 #[.slice A0 m c0, .slice A1 n c1] w fun e w' => e = .returned (.bool false) ∧ Below w.heap.size w w' := by
  have HB := Aside0.mk (Below.refl w.heap.size w)
  go_enter Tryd.func9, Tryd.ntmps9
  go_wp2
  go_ret
  exact ⟨rfl, HB.out⟩
set_option maxHeartbeats 2000000 in
set_option maxRecDepth 100000 in
theorem long_1 (A0 : Option Addr) (m c0 : Nat) (A1 : Option Addr) (n c1 : Nat) (w : World) (hd1 : decide ((1300 : Int) < (m : Int)) = true) :
    Calls Tryd.prog 9 #[.slice A0 m c0, .slice A1 n c1] w fun e w' => e = .returned (.bool true) ∧ Below w.heap.size w w' := by
  have HB := Aside0.mk (Below.refl w.heap.size w)
  go_enter Tryd.func9, Tryd.ntmps9
  go_wp2
  go_ret
  exact ⟨rfl, HB.out⟩
set_option maxHeartbeats 2000000 in
set_option maxRecDepth 100000 in
theorem long_2 (A0 : Option Addr) (m c0 : Nat) (A1 : Option Addr) (n c1 : Nat) (w : World) (hd1 : decide ((1300 : Int) < (m : Int)) = false) (hd2 : decide ((200 : Int) < (n : Int)) = true) :
    Calls Tryd.prog 9 #[.slice A0 m c0, .slice A1 n c1] w fun e w' => e = .returned (.bool true) ∧ Below w.heap.size w w' := by
  have HB := Aside0.mk (Below.refl w.heap.size w)
  go_enter Tryd.func9, Tryd.ntmps9
  go_wp2
  go_ret
  exact ⟨rfl, HB.out⟩
/-- A swift reader's contracts, told with what they keep. -/
theorem sw_get {base g h : Nat} {B : List Int} {s : St} (hs : Rd.Good s) {n : Int} (hn : I64 n) {w : World} (hL : Laid w) (H : SwAt base w g B s h) :
    Calls Tryd.prog 12 #[.pointer (some ⟨g, 0, none⟩), .int .i64 n] w fun e w' => e = .returned (.int .i64 (Rd.get s n)) ∧ SwAt base w' g B s h ∧ Below g w w' ∧ KeepBut w w' g none :=
  (get_any base g h B s hs n hn w hL H).mono fun e w' k => ⟨k.1, H.below k.2, k.2.mono (Nat.le_of_lt H.lt), KeepBut.of_below k.2 g none⟩
theorem sw_left {base g h : Nat} {B : List Int} (hl : B.length ≤ 10000) {s : St} (ht : s.t ≤ 10000) (hr : s.r ≤ 100000) {w : World} (H : SwAt base w g B s h) :
    Calls Tryd.prog 18 #[.pointer (some ⟨g, 0, none⟩)] w fun e w' => e = .returned (.int .i64 (left B s)) ∧ SwAt base w' g B s h ∧ Below g w w' ∧ KeepBut w w' g none :=
  (left_any base g h B hl s ht hr w H).mono fun e w' k => ⟨k.1, H.below k.2, k.2.mono (Nat.le_of_lt H.lt), KeepBut.of_below k.2 g none⟩
theorem sw_rng {base g h : Nat} {B : List Int} {s : St} {w : World} (H : SwAt base w g B s h) :
    Calls Tryd.prog 20 #[.pointer (some ⟨g, 0, none⟩)] w fun e w' => e = .returned (.int .u32 s.g) ∧ SwAt base w' g B s h ∧ Below g w w' ∧ KeepBut w w' g none :=
  (rng_any base g h B s w H).mono fun e w' k => ⟨k.1, H.below k.2, k.2.mono (Nat.le_of_lt H.lt), KeepBut.of_below k.2 g none⟩
theorem sw_take {base g h : Nat} {B : List Int} (hB : Bytes B) (hl : B.length ≤ 10000) {s : St} (hs : Rd.Good s) (ht : s.t ≤ 9990) (a b : Int) {n : Int} (hn : I64 n) {w : World} (hL : Laid w) (H : SwAt base w g B s h) :
    Calls Tryd.prog 14 #[.pointer (some ⟨g, 0, none⟩), .int .i64 a, .int .i64 b, .int .i64 n] w fun e w' => e = .returned (.tuple #[]) ∧ SwAt base w' g B (Rd.take B s a b n) h ∧ Below g w w' ∧ KeepBut w w' g none :=
  (take_any base g h B hB hl s hs ht a b n hn w hL H).mono fun e w' k => ⟨k.1, k.2.1, k.2.2.2, k.2.2.1⟩
def rawn (s : St) (n : Int) : St := ⟨s.t, s.r + Rd.cl n, s.g, s.v⟩
/-- The window holds whole bytes. -/
structure Win (s : St) (h : Nat) : Prop where
  m8 : (s.r + h) % 8 = 0
  h7 : h ≤ 7
/-- .. with its window, whatever it is. -/
def SwW (base : Nat) (w : World) (g : Nat) (B : List Int) (s : St) : Prop := ∃ h, SwAt base w g B s h ∧ Win s h
theorem sw_raw {base g : Nat} {B : List Int} (hB : Bytes B) (hl : B.length ≤ 10000) {s : St} (hr : s.r ≤ 90000) (n : Int) {w : World} (H : SwW base w g B s) :
    Calls Tryd.prog 16 #[.pointer (some ⟨g, 0, none⟩), .int .i64 n] w fun e w' => e = .returned (.int .u32 (Rd.raw B s.r (Rd.cl n))) ∧ SwW base w' g B (rawn s n) ∧ Below g w w' ∧ KeepBut w w' g none := by
  obtain ⟨h, H, m8, h7⟩ := H
  have key : ∀ e w', (∃ h', e = Ending.returned (.int .u32 (Rd.raw B s.r (Rd.cl n))) ∧ SwAt base w' g B ⟨s.t, s.r + Rd.cl n, s.g, s.v⟩ h' ∧ (s.r + Rd.cl n + h') % 8 = 0 ∧ h' ≤ 7 ∧ KeepBut w w' g none ∧ Below g w w') → e = .returned (.int .u32 (Rd.raw B s.r (Rd.cl n))) ∧ SwW base w' g B (rawn s n) ∧ Below g w w' ∧ KeepBut w w' g none := by
    rintro e w' ⟨h', rfl, hI, k8, k7, hk, hb⟩
    exact ⟨rfl, ⟨h', hI, ⟨k8, k7⟩⟩, hb, hk⟩
  by_cases h0 : n < 0
  · exact (raw_neg base g h B hB B.length rfl hl s hr (Rd.cl n) n (Rd.cl_le n) (by unfold Rd.cl; omega) h0 m8 h7 w H).mono key
  · by_cases h1 : 16 < n
    · exact (raw_big base g h B hB B.length rfl hl s hr (Rd.cl n) n (Rd.cl_le n) (by unfold Rd.cl; omega) h0 h1 m8 h7 w H).mono key
    · have e : n = ((Rd.cl n : Nat) : Int) := by unfold Rd.cl; omega
      have := raw_mid base g h B hB B.length rfl hl s hr (Rd.cl n) (Rd.cl_le n) (by omega) (by omega) m8 h7 w H
      rw [← e] at this
      exact this.mono key
end Go.Proofs.YtdfgoahfaebooaaDoor.SwWalk
