import Derived.Test.YtjmoklebimejaaaSyRead
import Derived.Test.YtjmoklebimejaaaWrSep
namespace Go.Proofs.Ytjmoklebimejaaa.SyWalk
open Go.RowKit Go.Proofs.YtjmoklebimejaaaW.PrintWords Go.Proofs.YtjmoklebimejaaaW.PrintLast Go.Proofs.YtjmoklebimejaaaW.PrintMore
open Go.Proofs.Ytjmoklebimejaaa.WrWalk Go.Proofs.Ytjmoklebimejaaa.Sy Go.Proofs.Ytjmoklebimejaaa.OSymCosts
open Go.Proofs.Ytjmoklebimejaaa.RdWalk (RdAt rd_new)
open Go.Proofs.Ytjmoklebimejaaa.Rd (by_ Bytes)
open Go.Proofs.Ytjmoklebimejaaa.Wr (St)
open Go.Proofs.Ytjmoklebimejaaa.Pack (pk)
open Go.Proofs.Ytjmoklebimejaaa.WrLaw (new_wr2)
set_option linter.unusedVariables false
set_option linter.unusedSimpArgs false
theorem row_c8 {w : World} {Av : Option Addr} {m cc : Nat} {L : List Int} {ok : Nat → Prop} (h : Kd.R (Kd.int .u8) 5 w 0 ok (.slice Av m cc) L) (hl : L.length = m) : Kd.C (Kd.int .u8) w Av m L := by
  obtain ⟨h1, h2, h3⟩ := Kd.R_reads' h
  rw [hl] at h3
  exact h3
def exB : List Int := [254, 249, 4, 0, 0, 0, 0, 3]
theorem ex_ok : (if okU 999 1000 then (0 : Int) else 1) = 0 := by kernel_rfl
theorem ex_len : (uraw 999 1000).length = 2 := by kernel_rfl
theorem ex_m : (uput Wr.new 999 1000).m = 0 := by kernel_rfl
theorem ex_pk : pk 8 (uput Wr.new 999 1000).m (uput Wr.new 999 1000).V ([] ++ uraw 999 1000) = exB := by kernel_rfl
theorem ex_u : uu exB (Rd.new exB) 1000 = 999 := by kernel_rfl
theorem ex_by : Bytes exB := by
  intro x hx
  simp only [exB, List.mem_cons, List.not_mem_nil, or_false] at hx
  omega
theorem at_mono {ok ok' : Nat → Prop} {w : World} {g : Nat} {sz : Int} {s : St} {R : List Bool} (H : WrAt ok w g sz s R) (h : ∀ k, ok k → ok' k) : WrAt ok' w g sz s R := WrB.mono H (fun k hk _ => h k hk)
theorem cell_under {b : Nat} {w w' : World} (h : Below b w w') {a : Addr} (ha : a.block < b) : w'.cell? a = w.cell? a := by
  simp only [World.cell?, h.block _ ha]
set_option maxHeartbeats 4000000 in
set_option maxRecDepth 100000 in
theorem awake_any (w : World) : Calls Try.prog 4 #[] w fun e w' => e = .returned (.bool true) ∧ Below w.heap.size w w' := by
  have HB := Aside0.mk (Below.refl w.heap.size w)
  obtain ⟨S1, hS1⟩ : ∃ s, uput Wr.new 999 1000 = s := ⟨_, rfl⟩
  obtain ⟨R1, hR1⟩ : ∃ s, ([] : List Bool) ++ uraw 999 1000 = s := ⟨_, rfl⟩
  have CN : Aside0 (∀ w1, Calls Try.prog 5 #[.int .i64 8] w1 fun e w' => ∃ g, e = .returned (.tuple #[.pointer (some ⟨g, 0, none⟩), .int .i64 0]) ∧ WrAt (fun k => w1.heap.size ≤ k) w' g 8 Wr.new [] ∧ Below w1.heap.size w1 w') := ⟨fun w1 => new_wr2 8 (by omega) w1⟩
  have CP : Aside0 (∀ g w1, w.heap.size ≤ w1.heap.size → WrAt (fun k => w.heap.size ≤ k) w1 g 8 Wr.new [] → Calls Try.prog 6 #[.pointer (some ⟨g, 0, none⟩), .int .i64 999, .int .i64 1000] w1 fun e w' => e = .returned (.int .i64 0) ∧ WrAt (fun k => w.heap.size ≤ k) w' g 8 S1 R1 ∧ Below w.heap.size w1 w') := ⟨fun g w1 hs H => (uput_any _ g 999 1000 8 Wr.new [] w1 Wr.new_fair (by decide) (by decide) (fun k hk => Nat.le_trans hs hk) H).mono (fun e w' h => ⟨by rw [ex_ok] at h; exact h.1, hR1 ▸ hS1 ▸ h.2.1, h.2.2.below (fun k hk => hk) hs⟩)⟩
  have CD : Aside0 (∀ g w1, WrAt (fun k => w.heap.size ≤ k) w1 g 8 S1 R1 → Calls Try.prog 8 #[.pointer (some ⟨g, 0, none⟩)] w1 fun e w' => ∃ gb, e = .returned (.tuple #[.slice (some ⟨gb, 0, none⟩) 8 8, .int .i64 0]) ∧ Kd.C (Kd.int .u8) w' (some ⟨gb, 0, none⟩) 8 exB ∧ w'.cell? ⟨gb, 7, none⟩ = some (.int .u8 3) ∧ gb < w'.heap.size ∧ Below w1.heap.size w1 w') := ⟨fun g w1 H => by
    have h := done_yes _ g 8 S1 R1 w1 H (by omega) (by rw [← hR1, ← hS1, ex_m, List.nil_append, ex_len]; decide)
    refine h.mono ?_
    rintro e w' ⟨gb, rfl, hR, hb⟩
    rw [← hR1, ← hS1, ex_pk] at hR
    have hC := row_c8 hR rfl
    obtain ⟨ad, c, he, _, hK, hc⟩ := Kd.C_get hC (0 : Int) 7 (by omega) (by omega)
    injection he with he
    subst he
    have hK' : c = [Value.int .u8 (exB.getD 7 0)] := hK
    subst hK'
    have h7 : w'.cell? ⟨gb, 7, none⟩ = some (.int .u8 3) := hc 0 _ rfl
    refine ⟨gb, rfl, hC, h7, ?_, hb⟩
    refine Nat.lt_of_not_le fun hn => ?_
    simp [World.cell?, Array.getElem?_eq_none hn] at h7⟩
  have CR : Aside0 (∀ gb w1, Kd.C (Kd.int .u8) w1 (some ⟨gb, 0, none⟩) 8 exB → Calls Try.prog 10 #[.slice (some ⟨gb, 0, none⟩) 8 8] w1 fun e w' => ∃ g, e = .returned (.pointer (some ⟨g, 0, none⟩)) ∧ RdAt w' g exB (Rd.new exB) ∧ w1.heap.size ≤ g ∧ Below w1.heap.size w1 w') := ⟨fun gb w1 hC => rd_new exB 8 rfl ex_by (by omega) _ 8 w1 hC (Nat.le_refl _)⟩
  have CU : Aside0 (∀ g w1, RdAt w1 g exB (Rd.new exB) → Calls Try.prog 9 #[.pointer (some ⟨g, 0, none⟩), .int .i64 1000] w1 fun e w' => e = .returned (.tuple #[.int .i64 999, .bool true]) ∧ Below g w1 w') := ⟨fun g w1 h => (rd_uint ex_by (by decide) (Rd.new_good ex_by) (by decide) (by decide) (n := 1000) (by omega) (by omega) h).mono (fun e w' hh => ⟨by rw [hh.1, ex_u]; rfl, (hh.2.2 (RdWalk.at_lt h)).1⟩)⟩
  clear hS1 hR1
  go_enter Try.func4, Try.ntmps4
  go_wp2_with (first
    | (go_at_call 5; (with_reducible refine (CN.out _).mono ?_); rintro e w1 ⟨g, rfl, hI, hb⟩; have HI := Aside0.mk (at_mono (ok' := fun k => w.heap.size ≤ k) hI (fun k hk => Nat.le_trans HB.out.size hk)); have HB1 := Aside0.mk (below_step HB.out hb); clear hI hb)
    | (go_at_call 6; (with_reducible refine (CP.out g _ HB1.out.size HI.out).mono ?_); rintro e w2 ⟨rfl, hI, hf⟩; have HI2 := Aside0.mk hI; have HB2 := Aside0.mk (HB1.out.trans hf); clear HI hI hf)
    | (go_at_call 8; (with_reducible refine (CD.out g _ HI2.out).mono ?_); rintro e w3 ⟨gb, rfl, hC, h7, hlt, hb⟩; have HC := Aside0.mk hC; have H7 := Aside0.mk h7; have HL := Aside0.mk hlt; have HB3 := Aside0.mk (below_step HB2.out hb); clear hC h7 hlt hb)
    | (go_at_call 10; (with_reducible refine (CR.out gb _ HC.out).mono ?_); rintro e w4 ⟨gr, rfl, hr, hg, hb⟩; have HR := Aside0.mk hr; have HG := Aside0.mk hg; have H74 := Aside0.mk ((cell_under hb (a := ⟨gb, 7, none⟩) HL.out).trans H7.out); have HB4 := Aside0.mk (below_step HB3.out hb); have HX := Aside0.mk hb.size; clear hr hg hb)
    | (go_at_call 9; (with_reducible refine (CU.out gr _ HR.out).mono ?_); rintro e w5 ⟨rfl, hb⟩; have h75 := (cell_under hb (a := ⟨gb, 7, none⟩) (Nat.lt_of_lt_of_le HL.out HG.out)).trans H74.out; have HB5 := Aside0.mk (HB4.out.trans (hb.mono (Nat.le_trans HB3.out.size HG.out))); clear hb))
  go_ret
  exact ⟨rfl, HB5.out⟩
end Go.Proofs.Ytjmoklebimejaaa.SyWalk
