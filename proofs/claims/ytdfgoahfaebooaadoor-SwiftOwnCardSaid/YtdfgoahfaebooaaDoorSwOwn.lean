import Derived.Test.YtdfgoahfaebooaaDoorSwLib
namespace Go.Proofs.YtdfgoahfaebooaaDoor.SwLaw
open Go.RowKit Go.Proofs.YtdfgoahfaebooaaDoorW.PrintWords Go.Proofs.YtdfgoahfaebooaaDoorW.PrintLast Go.Proofs.YtdfgoahfaebooaaDoorW.PrintMore
open Go.Proofs.YtdfgoahfaebooaaDoor.Rd (St by_ Bytes)
open Go.Proofs.YtdfgoahfaebooaaDoor.SwWalk
set_option linter.unusedVariables false
set_option linter.unusedSimpArgs false
theorem row_dummy : True := trivial
theorem row_c {w : World} {Ac : Option Addr} {m cc base : Nat} {cur : List Int} {ok : Nat → Prop} (h : Kd.R (Kd.int .u8) 5 w base ok (.slice Ac m cc) cur) (hl : cur.length = m) : Kd.C (Kd.int .u8) w Ac m cur ∧ m ≤ cc := by
  obtain ⟨h1, h2, h3⟩ := Kd.R_reads' h
  rw [hl] at h3
  exact ⟨h3, h2⟩
theorem str_c {w : World} {Ac : Option Addr} {m cc base : Nat} {cur : List Int} {ok : Nat → Prop} (h : Kd.R (Kd.int .u8) 5 w base ok (.slice Ac m cc) cur) : (convert 22 9 (.slice Ac m cc)).run Tryd.prog w = .ok (.string (strOfNums cur)) w :=
  own_string (P := Tryd.prog) (src := 22) (dst := 9) Tryd.underlying22 Tryd.underlying5 Tryd.underlying9 (Kd.own_of_R (enc := Value.int .u8) (h1 := fun _ => rfl) h)
/-- What lies below a reader's base is not its own. -/
theorem SwAt.low {base g h gc k : Nat} {w : World} {B : List Int} {s : St} {v : Value} (H : SwAt base w g B s h) (hgc : gc < base) : SwAt base (w.setCell ⟨gc, k, none⟩ v) g B s h := by
  obtain ⟨A0, c0, hg, hge, hR⟩ := H
  refine ⟨A0, c0, blk_far hg (p := ⟨gc, k, none⟩) (by show g ≠ gc; omega) v, hge, ?_⟩
  refine Kd.R_mono (Kd.R_step (Kd.R_bound hR) (fun i hi hlt => Below.heap_setCell w ⟨gc, k, none⟩ v i (by show i ≠ gc; have := hi.2.1; omega))) (fun i hi => hi.1)
theorem SwW.low {base g gc k : Nat} {w : World} {B : List Int} {s : St} {v : Value} (H : SwW base w g B s) (hgc : gc < base) : SwW base (w.setCell ⟨gc, k, none⟩ v) g B s := H.elim fun h p => ⟨h, SwAt.low p.1 hgc, p.2⟩
theorem SwW.lower {base base' g : Nat} {w : World} {B : List Int} {s : St} (H : SwW base w g B s) (hb : base' ≤ base) : SwW base' w g B s := H.elim fun h p => ⟨h, p.1.lower hb, p.2⟩
/-- Two readers, and a row that neither owns. -/
structure TwoC (Ac : Option Addr) (m cc : Nat) (cur : List Int) (w0 w : World) (g1 g2 : Nat) (B : List Int) (s1 s2 : St) : Prop where
  t : TwoW w0 w g1 g2 B s1 s2
  c : Kd.R (Kd.int .u8) 5 w 0 (fun k => k < g1 ∧ k < g2) (.slice Ac m cc) cur
section
variable {Ac : Option Addr} {m cc : Nat} {cur : List Int} {w0 w w' : World} {g1 g2 : Nat} {B : List Int} {s1 s2 s' : St}
theorem TwoC.x (T : TwoC Ac m cc cur w0 w g1 g2 B s1 s2) : SwW w0.heap.size w g1 B s1 := T.t.x
theorem TwoC.y (T : TwoC Ac m cc cur w0 w g1 g2 B s1 s2) : SwW w0.heap.size w g2 B s2 := T.t.y
theorem TwoC.hb (T : TwoC Ac m cc cur w0 w g1 g2 B s1 s2) : Below w0.heap.size w0 w := T.t.hb
theorem TwoC.laid (T : TwoC Ac m cc cur w0 w g1 g2 B s1 s2) : Laid w := T.t.laid
theorem TwoC.lt1 (T : TwoC Ac m cc cur w0 w g1 g2 B s1 s2) : g1 < w.heap.size := T.t.lt1
theorem TwoC.lt2 (T : TwoC Ac m cc cur w0 w g1 g2 B s1 s2) : g2 < w.heap.size := T.t.lt2
theorem TwoC.at1 (T : TwoC Ac m cc cur w0 w g1 g2 B s1 s2) (hI : SwW w0.heap.size w' g1 B s') (hb : Below g1 w w') (hk : KeepBut w w' g1 none) : TwoC Ac m cc cur w0 w' g1 g2 B s' s2 := ⟨T.t.at1 hI hb hk, Kd.R_step T.c (fun k hk hlt => hb.block k hk.1)⟩
theorem TwoC.at2 (T : TwoC Ac m cc cur w0 w g1 g2 B s1 s2) (hI : SwW w0.heap.size w' g2 B s') (hb : Below g2 w w') (hk : KeepBut w w' g2 none) : TwoC Ac m cc cur w0 w' g1 g2 B s1 s' := ⟨T.t.at2 hI hb hk, Kd.R_step T.c (fun k hk hlt => hb.block k hk.2)⟩
theorem TwoC.below (T : TwoC Ac m cc cur w0 w g1 g2 B s1 s2) (hb : Below w.heap.size w w') : TwoC Ac m cc cur w0 w' g1 g2 B s1 s2 := ⟨T.t.below hb, Kd.R_below T.c hb⟩
end
theorem R_openS {w : World} {e base : Nat} {ok : Nat → Prop} {v : Value} {xs : List Int} (h : Kd.R (Kd.int .u8) e w base ok v xs) (hn : 0 < xs.length) : ∃ gb c, v = .slice (some ⟨gb, 0, none⟩) xs.length c := by
  obtain ⟨inner, hi, ho⟩ := Kd.R_own h
  rcases ho with ⟨_, h0⟩ | ⟨gb, cap, cur, rfl, _⟩
  · omega
  · exact ⟨gb, cap, rfl⟩
set_option maxHeartbeats 8000000 in
set_option maxRecDepth 100000 in
theorem own_at (B : List Int) (m : Nat) (l : List S31) (n : Nat) (hm : B.length = m) (hB : Bytes B) (hl : m ≤ 1300) (hn : l.length = n) (hn2 : n ≤ 200) (hop : ∀ o ∈ l, (0 ≤ o.f0 ∧ o.f0 ≤ 255) ∧ I64 o.f1 ∧ I64 o.f2 ∧ I64 o.f3)
    (A0 : Option Addr) (c0 : Nat) (A1 : Option Addr) (c1 : Nat) (w : World) (hLd : Laid w) (hC : Kd.C (Kd.int .u8) w A0 m B) (hc : m ≤ c0) (hD : Kd.C k31 w A1 n l) :
    Calls Tryd.prog 5 #[.slice A0 m c0, .slice A1 n c1] w fun e w' => e = .returned (.bool true) ∧ Below w.heap.size w w' := by
  have HB := Aside0.mk (Below.refl w.heap.size w)
  have HLD := Aside0.mk hLd
  have HM := Aside0.mk hm
  have HBy := Aside0.mk hB
  have HC := Aside0.mk hC
  have HD := Aside0.mk hD
  have HN := Aside0.mk hn
  have HOP := Aside0.mk hop
  clear hLd hm hB hC hD hn hop
  have hd0 : decide ((1300 : Int) < (m : Int)) = false := decide_eq_false (by omega)
  have hd2 : decide ((200 : Int) < (n : Int)) = false := decide_eq_false (by omega)
  go_enter Tryd.func5, Tryd.ntmps5
  go_wp2_with (first
    | (go_at_call 8; (with_reducible refine (awake_any _ (HLD.out.below HB.out)).mono ?_); rintro e wa ⟨rfl, hb⟩; have HB1 := Aside0.mk (below_step HB.out hb); clear HB hb; have HB := HB1; clear HB1)
    | (go_at_call 9; (with_reducible refine (long_no A0 m c0 A1 n c1 _ hd0 hd2).mono ?_); rintro e wl ⟨rfl, hb⟩; have HB1 := Aside0.mk (below_step HB.out hb); clear HB hb; have HB := HB1; clear HB1)
    | ((with_reducible refine gate_builtin (b := .append) (xs := #[.tmp 17, .tmp 18]) rfl ?_); at_builtin; refine Kd.R_append_row (Value.int .u8) (0 : Int) (h1 := fun _ => rfl) (w0 := w) w.heap.size rfl (.tmp 17) (.tmp 18) 22 5 (.int .u8 0) 1 rfl Tryd.underlying22 infoE rfl (by decide) (.slice (some ⟨wl.heap.size, 0, none⟩) 0 0) [] B A0 m c0 (fun _ => True) rfl rfl (fun _ _ => trivial) ((Kd.R_of_own (own_lit wl w.heap.size 5 .u8 [] HB.out.size (by decide)) (fun _ _ => trivial))) (Kd.C_below HC.out (below_alloc HB.out _)) (below_alloc HB.out _) (by simp; have := HB.out.size; omega) (by simp [HM.out]; omega) ?_; intro v1 wc hR hb2 hg hat; obtain ⟨Ac, cc, rfl⟩ := Kd.R_slice hR; rw [List.nil_append, HM.out] at hR ⊢; have HR : Aside0 (Kd.R (Kd.int .u8) 5 wc 0 (fun k => w.heap.size ≤ k ∧ k < wc.heap.size) (.slice Ac m cc) B) := ⟨Kd.R_mono (Kd.R_lower (Kd.R_bound hR) (Nat.zero_le _)) (fun k hk => ⟨hk.2.1, hk.2.2.1⟩)⟩; have HB2 := Aside0.mk hb2; clear hR hat hg hb2 HB; have HB := HB2; clear HB2)
    | (go_at_call 10; (with_reducible refine (new_any B HBy.out m HM.out (by omega) A0 c0 wc (Kd.C_below HC.out HB.out) hc).mono ?_); rintro e wx ⟨g1, rfl, hI, hb⟩; have HX : Aside0 (SwW wc.heap.size wx g1 B (Rd.new B)) := ⟨hI.w0⟩; have HRx := Aside0.mk (Kd.R_below HR.out hb); have HSX := Aside0.mk hb.size; have HBx := Aside0.mk (below_step HB.out hb); clear hb hI)
    | (go_at_call 10; (with_reducible refine (new_any B HBy.out m HM.out (by omega) Ac cc wx (row_c HRx.out HM.out).1 (row_c HRx.out HM.out).2).mono ?_); rintro e wy ⟨g2, rfl, hI, hb⟩; have HX2 := Aside0.mk (HX.out.below hb); have HY : Aside0 (SwW wx.heap.size wy g2 B (Rd.new B)) := ⟨hI.w0⟩; have HRy := Aside0.mk (Kd.R_below HRx.out hb); have HNE := Aside0.mk (Nat.ne_of_lt (Nat.lt_of_lt_of_le HX.out.lt hI.ge)); have HBy2 := Aside0.mk (below_step HBx.out hb); have hs1 := str_c HRy.out; have hs2 := Kd.C_string (P := Tryd.prog) (src := 22) (dst := 9) (c := c0) Tryd.underlying22 Tryd.underlying5 Tryd.underlying9 (Kd.C_below HC.out HBy2.out); have HWC := Aside0.mk HB.out.size; clear hb hI HX HRx HBx HB))
  clear hs1 hs2 HR
  go_loopw [31, 8] (fun i _ wr => ∃ (k : Nat) (cur : List Int), k ≤ m ∧ i = .int .i64 k ∧ Aside0 (cur.length = m) ∧ Aside0 (SwW wc.heap.size wr g1 B (Rd.new B)) ∧ Aside0 (SwW wx.heap.size wr g2 B (Rd.new B)) ∧ Aside0 (Kd.R (Kd.int .u8) 5 wr 0 (fun k => w.heap.size ≤ k ∧ k < wc.heap.size) (.slice Ac m cc) cur) ∧ Aside0 (Below w.heap.size w wr)) (fun i _ _ => (m - intOf i).toNat)
  case atStart => exact ⟨0, B, by omega, rfl, HM, HX2, HY, HRy, HBy2⟩
  case round =>
    obtain ⟨k, cur, hk, rfl, HC1, HX3, HY3, HR3, HB3⟩ := hrel
    clear HX2 HY HRy HBy2
    by_cases ht : k < m
    · obtain ⟨gc, c', he⟩ := R_openS HR3.out (by rw [HC1.out]; omega)
      injection he with he1 he2 he3
      clear he2 he3
      subst he1
      have hok := HR3.out.1 gc rfl
      have hrc := Kd.R_cell (xs := cur) (0 : Int) (by rw [HC1.out]; exact HR3.out) (k : Int) (by omega) (by rw [HC1.out]; omega)
      obtain ⟨y, hy⟩ : ∃ y, rdOf (0 : Int) cur (k : Int) = y := ⟨_, rfl⟩
      rw [hy, Int.toNat_natCast] at hrc
      obtain ⟨hc1, hf1⟩ := hrc
      have hput := fun x : Int => (Kd.R_put (xs := cur) (by rw [HC1.out]; exact HR3.out) (k : Int) x).1
      simp only [HC1.out, Int.toNat_natCast] at hput
      have HPUT := Aside0.mk hput
      have HOK := Aside0.mk hok
      have ht' : (k : Int) < (m : Int) := by omega
      clear hput hok hy
      go_wp2
      go_roundw
      case rel => exact ⟨k + 1, cur.set k (bits .xor .u8 y 255), by omega, by simp, ⟨by rw [List.length_set]; exact HC1.out⟩, ⟨SwW.low HX3.out HOK.out.2⟩, ⟨SwW.low HY3.out (Nat.lt_of_lt_of_le HOK.out.2 HSX.out)⟩, ⟨HPUT.out _⟩, ⟨Below.setCell HB3.out (p := ⟨gc, k, none⟩) HOK.out.1 _⟩⟩
      case measure => simp [intOf]; omega
    · have HT : Aside0 (TwoC Ac m cc cur w wr g1 g2 B (Rd.new B) (Rd.new B)) := ⟨⟨⟨SwW.lower HX3.out (Nat.le_trans HWC.out (Nat.le_refl _)), SwW.lower HY3.out (Nat.le_trans HWC.out HSX.out), HNE.out, Nat.le_trans (Nat.le_trans HWC.out HSX.out) HY3.out.ge, HB3.out, HLD.out⟩, Kd.R_mono HR3.out (fun k hk => ⟨Nat.lt_of_lt_of_le hk.2 HX3.out.ge, Nat.lt_of_lt_of_le hk.2 (Nat.le_trans HSX.out HY3.out.ge)⟩)⟩⟩
      have hst0 := str_c HR3.out
      have ht' : ¬ (k : Int) < (m : Int) := by omega
      clear HX3 HY3 HR3 HB3 HC1
      go_wp2
      clear hst0
      go_loopw [45] (fun i wr => ∃ (k : Nat) (s : St), k ≤ n ∧ i = .int .i64 k ∧ Aside0 (TwoC Ac m cc cur w wr g1 g2 B s s) ∧ Aside0 (Rd.Good s ∧ s.t ≤ 3 + 2 * k ∧ s.r ≤ 16 * k)) (fun i _ => (n - intOf i).toNat)
      case atStart => exact ⟨0, Rd.new B, by omega, rfl, HT, ⟨Rd.new_good HBy.out, by simp [Rd.new], by simp [Rd.new]⟩⟩
      case round =>
        obtain ⟨k, s, hk, rfl, HT2, HS⟩ := hrel
        clear HT
        have HT := HT2
        clear HT2
        by_cases ht : k < n
        ·
          obtain ⟨ad, hA, hc0, hc1, hc2, hc3⟩ := at_T31 (Kd.C_below HD.out (HT.out.hb)) (k : Int) (by omega) (by omega)
          obtain ⟨hK0, hF0, hT0, hN0⟩ := HOP.out (rd_T31 l k) (by unfold rd_T31; rw [Int.toNat_natCast, List.getD_eq_getElem?_getD, List.getElem?_eq_getElem (by rw [HN.out]; exact ht)]; exact List.getElem_mem _)
          rw [Int.toNat_natCast] at hc0 hc1 hc2 hc3
          obtain ⟨⟨K, F, T, N⟩, ho⟩ : ∃ o, rd_T31 l k = o := ⟨_, rfl⟩
          rw [ho] at hc0 hc1 hc2 hc3 hK0 hF0 hT0 hN0
          simp only at hc0 hc1 hc2 hc3 hK0 hF0 hT0 hN0
          have HK0 := Aside0.mk hK0
          have HF0 := Aside0.mk hF0
          have HT0 := Aside0.mk hT0
          have HN0 := Aside0.mk hN0
          clear ho hK0 hF0 hT0 hN0
          subst hA
          have HL1 := Aside0.mk HT.out.lt1
          have HL2 := Aside0.mk HT.out.lt2
          obtain ⟨Q, hQ⟩ : ∃ Q, Rd.get s N = Q := ⟨_, rfl⟩
          obtain ⟨R, hR⟩ : ∃ R, Rd.raw B s.r (Rd.cl T) = R := ⟨_, rfl⟩
          obtain ⟨s1, hs1⟩ : ∃ s1, rawn s T = s1 := ⟨_, rfl⟩
          have HS1 : Aside0 (Rd.Good s1 ∧ s1.t ≤ 3 + 2 * k ∧ s1.r ≤ 16 * (k + 1)) := ⟨by
            rw [← hs1]
            have h := HS.out
            have := Rd.cl_le T
            refine ⟨⟨h.1.g0, h.1.g1, h.1.v0, h.1.v1⟩, ?_, ?_⟩ <;> simp only [rawn] <;> omega⟩
          obtain ⟨s2, hs2⟩ : ∃ s2, Rd.take B s1 F T N = s2 := ⟨_, rfl⟩
          have HS2 : Aside0 (Rd.Good s2 ∧ s2.t ≤ 3 + 2 * (k + 1) ∧ s2.r ≤ 16 * (k + 1)) := ⟨by
            rw [← hs2]
            refine ⟨Rd.take_good HBy.out HS1.out.1 _ _ _, ?_, by rw [Rd.take_r]; exact HS1.out.2.2⟩
            have := (Rd.take_t B s1 F T N).2
            have := HS1.out.2.1
            omega⟩
          have b0 : s.r ≤ 90000 := by have := HS.out.2.2; omega
          have b1 : s1.t ≤ 9990 := by have := HS1.out.2.1; omega
          have CG1 : Aside0 (∀ wz so, TwoC Ac m cc cur w wz g1 g2 B s so → Calls Tryd.prog 12 #[.pointer (some ⟨g1, 0, none⟩), .int .i64 N] wz fun e w' => e = .returned (.int .i64 Q) ∧ TwoC Ac m cc cur w w' g1 g2 B s so ∧ KeepBut wz w' g1 none) := ⟨fun wz so T => (hQ ▸ sw_get' HS.out.1 HN0.out T.laid T.x).mono (fun e w' h => ⟨h.1, T.at1 h.2.1 h.2.2.1 h.2.2.2, h.2.2.2⟩)⟩
          have CG2 : Aside0 (∀ wz so, TwoC Ac m cc cur w wz g1 g2 B so s → Calls Tryd.prog 12 #[.pointer (some ⟨g2, 0, none⟩), .int .i64 N] wz fun e w' => e = .returned (.int .i64 Q) ∧ TwoC Ac m cc cur w w' g1 g2 B so s ∧ KeepBut wz w' g2 none) := ⟨fun wz so T => (hQ ▸ sw_get' HS.out.1 HN0.out T.laid T.y).mono (fun e w' h => ⟨h.1, T.at2 h.2.1 h.2.2.1 h.2.2.2, h.2.2.2⟩)⟩
          have CW1 : Aside0 (∀ wz so, TwoC Ac m cc cur w wz g1 g2 B s so → Calls Tryd.prog 16 #[.pointer (some ⟨g1, 0, none⟩), .int .i64 T] wz fun e w' => e = .returned (.int .u32 R) ∧ TwoC Ac m cc cur w w' g1 g2 B s1 so ∧ KeepBut wz w' g1 none) := ⟨fun wz so T => (hR ▸ hs1 ▸ sw_raw HBy.out (by rw [HM.out]; omega) b0 _ T.x).mono (fun e w' h => ⟨h.1, T.at1 h.2.1 h.2.2.1 h.2.2.2, h.2.2.2⟩)⟩
          have CW2 : Aside0 (∀ wz so, TwoC Ac m cc cur w wz g1 g2 B so s → Calls Tryd.prog 16 #[.pointer (some ⟨g2, 0, none⟩), .int .i64 T] wz fun e w' => e = .returned (.int .u32 R) ∧ TwoC Ac m cc cur w w' g1 g2 B so s1 ∧ KeepBut wz w' g2 none) := ⟨fun wz so T => (hR ▸ hs1 ▸ sw_raw HBy.out (by rw [HM.out]; omega) b0 _ T.y).mono (fun e w' h => ⟨h.1, T.at2 h.2.1 h.2.2.1 h.2.2.2, h.2.2.2⟩)⟩
          have CT1 : Aside0 (∀ wz so, TwoC Ac m cc cur w wz g1 g2 B s1 so → Calls Tryd.prog 14 #[.pointer (some ⟨g1, 0, none⟩), .int .i64 F, .int .i64 T, .int .i64 N] wz fun e w' => e = .returned (.tuple #[]) ∧ TwoC Ac m cc cur w w' g1 g2 B s2 so ∧ KeepBut wz w' g1 none) := ⟨fun wz so T => (hs2 ▸ sw_take' HBy.out (by rw [HM.out]; omega) HS1.out.1 b1 _ _ HN0.out T.laid T.x).mono (fun e w' h => ⟨h.1, T.at1 h.2.1 h.2.2.1 h.2.2.2, h.2.2.2⟩)⟩
          have CT2 : Aside0 (∀ wz so, TwoC Ac m cc cur w wz g1 g2 B so s1 → Calls Tryd.prog 14 #[.pointer (some ⟨g2, 0, none⟩), .int .i64 F, .int .i64 T, .int .i64 N] wz fun e w' => e = .returned (.tuple #[]) ∧ TwoC Ac m cc cur w w' g1 g2 B so s2 ∧ KeepBut wz w' g2 none) := ⟨fun wz so T => (hs2 ▸ sw_take' HBy.out (by rw [HM.out]; omega) HS1.out.1 b1 _ _ HN0.out T.laid T.y).mono (fun e w' h => ⟨h.1, T.at2 h.2.1 h.2.2.1 h.2.2.2, h.2.2.2⟩)⟩
          clear hQ hR hs1 hs2 b0 b1
          have HTd : Aside0 (TwoC Ac m cc cur w (wr.alloc (Obj.cells #[Value.int .u8 K, Value.int .i64 F, Value.int .i64 T, Value.int .i64 N] 31)).drew g1 g2 B s s) := ⟨HT.out.below (below_drew1 (below_alloc (Below.refl _ _) _))⟩
          clear HT
          go_wp2
          go_region_held3 (fun wz => wz.cell? ⟨wr.heap.size, 0, none⟩ = some (.int .u8 K) ∧ wz.cell? ⟨wr.heap.size, 1, none⟩ = some (.int .i64 F) ∧ wz.cell? ⟨wr.heap.size, 2, none⟩ = some (.int .i64 T) ∧ wz.cell? ⟨wr.heap.size, 3, none⟩ = some (.int .i64 N))
            (first | exact ⟨by simp, by simp, by simp, by simp⟩ | (go_split_ands; exact ⟨keep_cell hk (by assumption) (Nat.ne_of_gt HL1.out), keep_cell hk (by assumption) (Nat.ne_of_gt HL1.out), keep_cell hk (by assumption) (Nat.ne_of_gt HL1.out), keep_cell hk (by assumption) (Nat.ne_of_gt HL1.out)⟩) | (go_split_ands; exact ⟨keep_cell hk (by assumption) (Nat.ne_of_gt HL2.out), keep_cell hk (by assumption) (Nat.ne_of_gt HL2.out), keep_cell hk (by assumption) (Nat.ne_of_gt HL2.out), keep_cell hk (by assumption) (Nat.ne_of_gt HL2.out)⟩))
            (first | (go_at_call 12; (with_reducible refine (CG1.out _ _ (Aside0.out (by assumption))).mono ?_); rintro e w3 ⟨rfl, hT, hk⟩; have hT2 := Aside0.mk hT) | (go_at_call 12; (with_reducible refine (CG2.out _ _ (Aside0.out (by assumption))).mono ?_); rintro e w3 ⟨rfl, hT, hk⟩; have hT2 := Aside0.mk hT) | (go_at_call 16; (with_reducible refine (CW1.out _ _ (Aside0.out (by assumption))).mono ?_); rintro e w3 ⟨rfl, hT, hk⟩; have hT2 := Aside0.mk hT) | (go_at_call 16; (with_reducible refine (CW2.out _ _ (Aside0.out (by assumption))).mono ?_); rintro e w3 ⟨rfl, hT, hk⟩; have hT2 := Aside0.mk hT))
          all_goals (
            rename_i hH
            have hv0 := hH.1
            have hv1 := hH.2.1
            have hv2 := hH.2.2.1
            have hv3 := hH.2.2.2
            have HT := hT2
            clear hH
            go_wp2_with   (first
              | (go_at_call 14; (with_reducible refine (CT1.out _ _ HT.out).mono ?_); rintro e w1 ⟨rfl, hT, hk⟩; have m1 := keep_cell hk hv1 (Nat.ne_of_gt HL1.out); have m2 := keep_cell hk hv2 (Nat.ne_of_gt HL1.out); have m3 := keep_cell hk hv3 (Nat.ne_of_gt HL1.out); clear HT hk hv1 hv2 hv3; have HT := Aside0.mk hT; clear hT; have hv1 := m1; clear m1; have hv2 := m2; clear m2; have hv3 := m3; clear m3)
              | (go_at_call 14; (with_reducible refine (CT2.out _ _ HT.out).mono ?_); rintro e w1 ⟨rfl, hT, hk⟩; have m1 := keep_cell hk hv1 (Nat.ne_of_gt HL2.out); have m2 := keep_cell hk hv2 (Nat.ne_of_gt HL2.out); have m3 := keep_cell hk hv3 (Nat.ne_of_gt HL2.out); clear HT hk hv1 hv2 hv3; have HT := Aside0.mk hT; clear hT; have hv1 := m1; clear m1; have hv2 := m2; clear m2; have hv3 := m3; clear m3))
            go_roundw
            case rel => exact ⟨k + 1, s2, by omega, by simp, HT, HS2⟩
            case measure => simp [intOf]; omega)
        · have b2 : s.t ≤ 10000 := by have := HS.out.2.1; omega
          have b3 : s.r ≤ 100000 := by have := HS.out.2.2; omega
          obtain ⟨L, hL⟩ : ∃ L, left B s = L := ⟨_, rfl⟩
          obtain ⟨G', hG'⟩ : ∃ G', s.g = G' := ⟨_, rfl⟩
          have CL1 : Aside0 (∀ wz so, TwoC Ac m cc cur w wz g1 g2 B s so → Calls Tryd.prog 18 #[.pointer (some ⟨g1, 0, none⟩)] wz fun e w' => e = .returned (.int .i64 L) ∧ TwoC Ac m cc cur w w' g1 g2 B s so ∧ KeepBut wz w' g1 none) := ⟨fun wz so T => (hL ▸ sw_left' (by rw [HM.out]; omega) b2 b3 T.x).mono (fun e w' h => ⟨h.1, T.at1 h.2.1 h.2.2.1 h.2.2.2, h.2.2.2⟩)⟩
          have CL2 : Aside0 (∀ wz so, TwoC Ac m cc cur w wz g1 g2 B so s → Calls Tryd.prog 18 #[.pointer (some ⟨g2, 0, none⟩)] wz fun e w' => e = .returned (.int .i64 L) ∧ TwoC Ac m cc cur w w' g1 g2 B so s ∧ KeepBut wz w' g2 none) := ⟨fun wz so T => (hL ▸ sw_left' (by rw [HM.out]; omega) b2 b3 T.y).mono (fun e w' h => ⟨h.1, T.at2 h.2.1 h.2.2.1 h.2.2.2, h.2.2.2⟩)⟩
          have CR1 : Aside0 (∀ wz so, TwoC Ac m cc cur w wz g1 g2 B s so → Calls Tryd.prog 20 #[.pointer (some ⟨g1, 0, none⟩)] wz fun e w' => e = .returned (.int .u32 G') ∧ TwoC Ac m cc cur w w' g1 g2 B s so ∧ KeepBut wz w' g1 none) := ⟨fun wz so T => (hG' ▸ sw_rng' T.x).mono (fun e w' h => ⟨h.1, T.at1 h.2.1 h.2.2.1 h.2.2.2, h.2.2.2⟩)⟩
          have CR2 : Aside0 (∀ wz so, TwoC Ac m cc cur w wz g1 g2 B so s → Calls Tryd.prog 20 #[.pointer (some ⟨g2, 0, none⟩)] wz fun e w' => e = .returned (.int .u32 G') ∧ TwoC Ac m cc cur w w' g1 g2 B so s ∧ KeepBut wz w' g2 none) := ⟨fun wz so T => (hG' ▸ sw_rng' T.y).mono (fun e w' h => ⟨h.1, T.at2 h.2.1 h.2.2.1 h.2.2.2, h.2.2.2⟩)⟩
          have ht' : ¬ (k : Int) < (n : Int) := by omega
          clear hL hG' b2 b3
          go_wp2_with (first
            | (go_at_call 18; (with_reducible refine (CL1.out _ _ HT.out).mono ?_); rintro e w1 ⟨rfl, hT, hk⟩; clear HT hk; have HT := Aside0.mk hT; have hst := str_c hT.c; clear hT)
            | (go_at_call 18; (with_reducible refine (CL2.out _ _ HT.out).mono ?_); rintro e w1 ⟨rfl, hT, hk⟩; clear HT hk; have HT := Aside0.mk hT; have hst := str_c hT.c; clear hT)
            | (go_at_call 20; (with_reducible refine (CR1.out _ _ HT.out).mono ?_); rintro e w1 ⟨rfl, hT, hk⟩; clear HT hk; have HT := Aside0.mk hT; have hst := str_c hT.c; clear hT)
            | (go_at_call 20; (with_reducible refine (CR2.out _ _ HT.out).mono ?_); rintro e w1 ⟨rfl, hT, hk⟩; clear HT hk; have HT := Aside0.mk hT; have hst := str_c hT.c; clear hT))
          go_ret
          exact ⟨by simp, HT.out.hb⟩
set_option maxHeartbeats 4000000 in
set_option maxRecDepth 100000 in
theorem own_long (A0 : Option Addr) (m c0 : Nat) (A1 : Option Addr) (n c1 : Nat) (w : World) (hLd : Laid w) (hl : ∀ w, Calls Tryd.prog 9 #[.slice A0 m c0, .slice A1 n c1] w fun e w' => e = .returned (.bool true) ∧ Below w.heap.size w w') :
    Calls Tryd.prog 5 #[.slice A0 m c0, .slice A1 n c1] w fun e w' => e = .returned (.bool true) ∧ Below w.heap.size w w' := by
  have HB := Aside0.mk (Below.refl w.heap.size w)
  have HLD := Aside0.mk hLd
  have HLG := Aside0.mk hl
  clear hLd hl
  go_enter Tryd.func5, Tryd.ntmps5
  go_wp2_with (first
    | (go_at_call 8; (with_reducible refine (awake_any _ (HLD.out.below HB.out)).mono ?_); rintro e wa ⟨rfl, hb⟩; have HB1 := Aside0.mk (below_step HB.out hb); clear HB hb; have HB := HB1; clear HB1)
    | (go_at_call 9; (with_reducible refine (HLG.out _).mono ?_); rintro e wl ⟨rfl, hb⟩; have HB1 := Aside0.mk (below_step HB.out hb); clear HB hb; have HB := HB1; clear HB1))
  go_ret
  exact ⟨rfl, HB.out⟩
theorem own_row (a0 : Option Addr) (len0 cap0 : Nat) (z0 : List Int) (a1 : Option Addr) (len1 cap1 : Nat) (z1 : List (List Int)) (w : World) (hLd : Laid w) (w0 : (a0 = none ∧ len0 = 0 ∧ cap0 = 0 ∧ z0 = []) ∨ ∃ x, a0 = some x ∧ len0 ≤ cap0 ∧ cap0 ≤ maxLen ∧ z0.length = cap0 ∧ (∀ i, i < z0.length → w.cell? (x.add i) = some (.int .u8 (z0.getD i 0))) ∧ ∀ n ∈ z0, (Lit.int .u8 n).wf = true) (w1 : StructRows.Rows [.u8, .i64, .i64, .i64] w a1 len1 cap1 z1) :
    Calls Tryd.prog 5 #[.slice a0 len0 cap0, .slice a1 len1 cap1] w fun e w' => e = .returned (.bool true) ∧ Below w.heap.size w w' := by
  obtain ⟨l0, rfl, hr0, hm0, hw0, hc0⟩ := ReadsInt.ofRowC w0
  obtain ⟨hD, _, hop⟩ := ops31 w1
  by_cases hm : l0.length ≤ 1300
  · by_cases hn : len1 ≤ 200
    · exact own_at l0 _ (z1.map to31) len1 rfl (fun x h => Math.wf_u8 (hw0 x h)) hm hD.1 hn (fun o ho => ⟨Math.wf_u8 (hop o ho).1, Math.wf_i64 (hop o ho).2.1, Math.wf_i64 (hop o ho).2.2.1, Math.wf_i64 (hop o ho).2.2.2⟩) a0 cap0 a1 cap1 w hLd (Kd.C_of_reads (d := (0 : Int)) (h1 := fun _ => rfl) hr0) hc0 hD
    · exact own_long _ _ _ _ _ _ w hLd (fun w => long_2 _ _ _ _ _ _ w (decide_eq_false (by omega)) (decide_eq_true (by omega)))
  · exact own_long _ _ _ _ _ _ w hLd (fun w => long_1 _ _ _ _ _ _ w (decide_eq_true (by omega)))
end Go.Proofs.YtdfgoahfaebooaaDoor.SwLaw
