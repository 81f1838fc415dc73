import Derived.Test.YtcobbiapgihefaaWrDone
import Derived.Test.YtcobbiapgihefaaStructRows
namespace Go.Proofs.Ytcobbiapgihefaa.WrLaw
open Go.RowKit Go.Proofs.YtcobbiapgihefaaW.PrintWords Go.Proofs.YtcobbiapgihefaaW.PrintLast Go.Proofs.YtcobbiapgihefaaW.PrintMore
open Go.Proofs.Ytcobbiapgihefaa.Wr (St)
open Go.Proofs.Ytcobbiapgihefaa.WrWalk
open Go.Proofs.Ytcobbiapgihefaa.Pack (pk)
set_option linter.unusedVariables false
set_option linter.unusedSimpArgs false
/-! #### struct type 31 -/
structure S31 where
  f0 : Int
  f1 : Int
  f2 : Int
  f3 : Int
  f4 : Int
def z31 : S31 := ⟨(0 : Int), (0 : Int), (0 : Int), (0 : Int), (0 : Int)⟩
def k31 : Kd S31 := Kd.iso (Kd.pair (Kd.int .u8) (Kd.pair (Kd.int .i64) (Kd.pair (Kd.int .i64) (Kd.pair (Kd.int .i64) (Kd.int .u32))))) (fun x : S31 => (x.f0, x.f1, x.f2, x.f3, x.f4))
theorem k31_open {w : World} {x : S31} {cs : List Value} (h : k31.K w x cs) : cs = [.int .u8 x.f0, .int .i64 x.f1, .int .i64 x.f2, .int .i64 x.f3, .int .u32 x.f4] := by
  obtain ⟨_, _, rfl, rfl, ⟨_, _, rfl, rfl, ⟨_, _, rfl, rfl, ⟨_, _, rfl, rfl, rfl⟩⟩⟩⟩ := h
  exact rfl
theorem k31_openM {w : World} {base : Nat} {ok : Nat → Prop} {x : S31} {cs : List Value} (h : k31.M w base ok x cs) : cs = [.int .u8 x.f0, .int .i64 x.f1, .int .i64 x.f2, .int .i64 x.f3, .int .u32 x.f4] := by
  obtain ⟨_, _, rfl, rfl, ⟨_, _, rfl, rfl, ⟨_, _, rfl, rfl, ⟨_, _, rfl, rfl, rfl⟩⟩⟩⟩ := h
  exact rfl
theorem k31_mk (w : World) (x : S31)  : k31.K w x [.int .u8 x.f0, .int .i64 x.f1, .int .i64 x.f2, .int .i64 x.f3, .int .u32 x.f4] := ⟨[.int .u8 x.f0], [.int .i64 x.f1, .int .i64 x.f2, .int .i64 x.f3, .int .u32 x.f4], rfl, rfl, ⟨[.int .i64 x.f1], [.int .i64 x.f2, .int .i64 x.f3, .int .u32 x.f4], rfl, rfl, ⟨[.int .i64 x.f2], [.int .i64 x.f3, .int .u32 x.f4], rfl, rfl, ⟨[.int .i64 x.f3], [.int .u32 x.f4], rfl, rfl, rfl⟩⟩⟩⟩
theorem k31_mkM (w : World) (base : Nat) (ok : Nat → Prop) (x : S31)  : k31.M w base ok x [.int .u8 x.f0, .int .i64 x.f1, .int .i64 x.f2, .int .i64 x.f3, .int .u32 x.f4] := ⟨[.int .u8 x.f0], [.int .i64 x.f1, .int .i64 x.f2, .int .i64 x.f3, .int .u32 x.f4], rfl, rfl, ⟨[.int .i64 x.f1], [.int .i64 x.f2, .int .i64 x.f3, .int .u32 x.f4], rfl, rfl, ⟨[.int .i64 x.f2], [.int .i64 x.f3, .int .u32 x.f4], rfl, rfl, ⟨[.int .i64 x.f3], [.int .u32 x.f4], rfl, rfl, rfl⟩⟩⟩⟩
def rd_T31 (xs : List S31) (i : Int) : S31 := xs.getD i.toNat z31
theorem at_T31 {w : World} {A : Option Addr} {n : Nat} {xs : List S31} (h : Kd.C k31 w A n xs) (i : Int) (h0 : 0 ≤ i) (h1 : i < n) : ∃ ad , A = some ad ∧ w.cell? (ad.add (i.toNat * 5)) = some (.int .u8 (rd_T31 xs i).f0) ∧ w.cell? ⟨(ad.add (i.toNat * 5)).block, (ad.add (i.toNat * 5)).off + 1, none⟩ = some (.int .i64 (rd_T31 xs i).f1) ∧ w.cell? ⟨(ad.add (i.toNat * 5)).block, (ad.add (i.toNat * 5)).off + 2, none⟩ = some (.int .i64 (rd_T31 xs i).f2) ∧ w.cell? ⟨(ad.add (i.toNat * 5)).block, (ad.add (i.toNat * 5)).off + 3, none⟩ = some (.int .i64 (rd_T31 xs i).f3) ∧ w.cell? ⟨(ad.add (i.toNat * 5)).block, (ad.add (i.toNat * 5)).off + 4, none⟩ = some (.int .u32 (rd_T31 xs i).f4) := by
  obtain ⟨ad, c, e, _, hK, hc0⟩ := Kd.C_get h z31 i h0 h1
  have hc : ∀ j u, c[j]? = some u → w.cell? (ad.add (i.toNat * 5 + j)) = some u := hc0
  obtain rfl := k31_open hK
  exact ⟨ad, e, hc 0 _ rfl, by rw [← add_field _ _ 1 (by omega)]; exact hc 1 _ rfl, by rw [← add_field _ _ 2 (by omega)]; exact hc 2 _ rfl, by rw [← add_field _ _ 3 (by omega)]; exact hc 3 _ rfl, by rw [← add_field _ _ 4 (by omega)]; exact hc 4 _ rfl⟩

/-- An element out of its numbers. -/
def to31 (z : List Int) : S31 := ⟨z.getD 0 0, z.getD 1 0, z.getD 2 0, z.getD 3 0, z.getD 4 0⟩
theorem ops31 {w : World} {A : Option Addr} {len cap : Nat} {zs : List (List Int)} (h : StructRows.Rows [.u8, .i64, .i64, .i64, .u32] w A len cap zs) : Kd.C k31 w A len (zs.map to31) ∧ len ≤ cap ∧ ∀ x ∈ zs.map to31, (Lit.int .u8 x.f0).wf = true ∧ (Lit.int .i64 x.f1).wf = true ∧ (Lit.int .i64 x.f2).wf = true ∧ (Lit.int .i64 x.f3).wf = true ∧ (Lit.int .u32 x.f4).wf = true := by
  obtain ⟨h1, h2, h3, h4, h5⟩ := h
  refine ⟨⟨by simpa using h2, h3, fun hn => ?_⟩, h1, fun x hx => ?_⟩
  · obtain ⟨ad, e, hc⟩ := h5 hn
    refine ⟨ad, e, fun j p hj => ?_⟩
    rw [List.getElem?_map] at hj
    obtain ⟨z, hz, rfl⟩ := Option.map_eq_some_iff.1 hj
    refine ⟨_, rfl, k31_mk w (to31 z), fun i u hu => ?_⟩
    rcases i with _ | _ | _ | _ | _ | i <;> simp at hu
    · subst hu; exact hc j z hz 0 _ rfl
    · subst hu; exact hc j z hz 1 _ rfl
    · subst hu; exact hc j z hz 2 _ rfl
    · subst hu; exact hc j z hz 3 _ rfl
    · subst hu; exact hc j z hz 4 _ rfl
  · obtain ⟨z, hz, rfl⟩ := List.mem_map.1 hx
    have := h4 z hz
    exact ⟨this 0 _ rfl, this 1 _ rfl, this 2 _ rfl, this 3 _ rfl, this 4 _ rfl⟩
theorem new_wr {ok : Nat → Prop} {w : World} {g : Nat} {sz : Int} (h : WrB ok w g sz 16777216 0 [] []) : WrAt ok w g sz Wr.new [] := h
theorem ex_put : Wr.put Wr.new 1 2 2 = ⟨0, 8388608, 8388608⟩ := by kernel_rfl
theorem ex_pk : pk 4 (Wr.put Wr.new 1 2 2).m (Wr.put Wr.new 1 2 2).V [] = [128, 0, 0, 0] := by kernel_rfl
theorem ex_done (ok : Nat → Prop) (w : World) (g : Nat) (H : WrAt ok w g 4 (Wr.put Wr.new 1 2 2) []) : Calls Try.prog 13 #[.pointer (some ⟨g, 0, none⟩)] w fun e w' => ∃ gb, e = .returned (.tuple #[.slice (some ⟨gb, 0, none⟩) 4 4, .int .i64 0]) ∧ Kd.R (Kd.int .u8) 5 w' 0 (fun k => w.heap.size ≤ k) (.slice (some ⟨gb, 0, none⟩) 4 4) [128, 0, 0, 0] ∧ Below w.heap.size w w' := by
  have h := done_yes ok g 4 _ [] w H (by omega) (by rw [ex_put]; show 0 + 8 * (0 + 3) ≤ 8 * 4; omega)
  rw [ex_pk] at h
  exact h
set_option maxHeartbeats 2000000 in
set_option maxRecDepth 100000 in
theorem awake_any (w : World) : Calls Try.prog 7 #[] w fun e w' => e = .returned (.bool true) ∧ Below w.heap.size w w' := by
  have HB := Aside0.mk (Below.refl w.heap.size w)
  obtain ⟨S1, hS1⟩ : ∃ s, Wr.put Wr.new 1 2 2 = s := ⟨_, rfl⟩
  have CP : Aside0 (∀ g w1, w.heap.size ≤ w1.heap.size → WrAt (fun k => w.heap.size ≤ k) w1 g 4 Wr.new [] → Calls Try.prog 11 #[.pointer (some ⟨g, 0, none⟩), .int .i64 1, .int .i64 2, .int .i64 2] w1 fun e w' => e = .returned (.int .i64 0) ∧ WrAt (fun k => w.heap.size ≤ k) w' g 4 S1 [] ∧ Below w.heap.size w1 w') := ⟨fun g w1 hs H => (put_any _ g 4 1 2 2 Wr.new [] w1 Wr.new_fair (by decide) (fun k hk => Nat.le_trans hs hk) H).mono (fun e w' h => ⟨by rw [if_pos (by decide)] at h; exact h.1, hS1 ▸ h.2.1, h.2.2.below (fun k hk => hk) hs⟩)⟩
  have CD : Aside0 (∀ g w1, WrAt (fun k => w.heap.size ≤ k) w1 g 4 S1 [] → Calls Try.prog 13 #[.pointer (some ⟨g, 0, none⟩)] w1 fun e w' => ∃ gb, e = .returned (.tuple #[.slice (some ⟨gb, 0, none⟩) 4 4, .int .i64 0]) ∧ Kd.R (Kd.int .u8) 5 w' 0 (fun k => w1.heap.size ≤ k) (.slice (some ⟨gb, 0, none⟩) 4 4) [128, 0, 0, 0] ∧ Below w1.heap.size w1 w') := ⟨fun g w1 H => ex_done _ w1 g (hS1 ▸ H)⟩
  clear hS1
  go_enter Try.func7, Try.ntmps7
  go_wp2_with (first
    | (go_at_call 8; (with_reducible refine (new_at 4 (by omega) _).mono ?_); rintro e w1 ⟨g, rfl, hI, hb⟩; have HI := Aside0.mk (new_wr hI); have HB1 := Aside0.mk hb; clear hI hb)
    | (go_at_call 11; (with_reducible refine (CP.out g w1 HB1.out.size HI.out).mono ?_); rintro e w2 ⟨rfl, hI, hf⟩; have HI2 := Aside0.mk hI; have HB2 := Aside0.mk (HB1.out.trans hf); clear HI hI hf)
    | (go_at_call 13; (with_reducible refine (CD.out g w2 HI2.out).mono ?_); rintro e w3 ⟨gb, rfl, hR, hb⟩; have HS := own_string (P := Try.prog) (src := 37) (dst := 9) Try.underlying37 Try.underlying5 Try.underlying9 (Kd.own_of_R (enc := Value.int .u8) (h1 := fun _ => rfl) hR); have HB3 := Aside0.mk (below_step HB2.out hb); clear hR hb))
  go_ret
  exact ⟨congrArg Ending.returned (congrArg Value.bool (by rw [ByteArray.toList_eq]; rfl)), HB3.out⟩
end Go.Proofs.Ytcobbiapgihefaa.WrLaw
