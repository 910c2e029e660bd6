/- PROVED: the reference's net in memory, and its methods. No condition beyond what each line says. -/
import Derived.Test.YtglhojkchpbnkaaNetB
import Derived.WalkKit
import Derived.WalkSpells
import Derived.WalkLawsBesides
import Derived.Outline
import Derived.Lib.Hide
import Derived.Deep.LoopGhost
import Derived.Deep.RegionHeld3
import Derived.Deep.DeepCutAuto
import Derived.Deep.RegionLaw
import Derived.BigQuiet
import Derived.Deep.QuietTactic
namespace Go.Proofs.Ytglhojkchpbnkaa.NetR
open Go.RowKit Go.Proofs.Ytglhojkchpbnkaa.PNetPlays Go.Proofs.Ytglhojkchpbnkaa.Net2 Go.Proofs.Ytglhojkchpbnkaa.NetTake Go.Proofs.YtglhojkchpbnkaaW.PrintWords Go.Proofs.YtglhojkchpbnkaaW.PrintLast Go.Proofs.YtglhojkchpbnkaaW.PrintMore
open Go.Proofs.Ytglhojkchpbnkaa.NetAwake (world_gen)
open Go.Proofs.Ytglhojkchpbnkaa.Net (own_is info29 k29_types at_in len_is look_fin)
set_option linter.unusedSimpArgs false
set_option linter.unusedVariables false
open Go.Proofs.Ytglhojkchpbnkaa.NetA Go.Proofs.Ytglhojkchpbnkaa.NetB
theorem k29_t48 : ∀ q, q ∈ 29 :: k29.E → q ≠ 48 := by decide
theorem copy_is (a0 a1 : Int) (l : List Int) (h : l.length ≤ 65536) : juratref24_Copy.f a0 a1 l = some (a0, a1, l) := by
  unfold juratref24_Copy.f
  simp only [Option.bind_some, List.nil_append, List.length_nil]
  rw [if_pos (by omega)]
/-- A net at block r: its slice is v; it owns its messages ms, with their bodies, no two of which lie in one block; all its blocks but r are ok. -/
def RefIs (base : Nat) (ok : Nat → Prop) (w : World) (r : Nat) (v : Value) (ms : List S29) : Prop := w.heap[r]? = some (.cells #[v] 48 (0, 0)) ∧ base ≤ r ∧ Kd.S k29 29 w base ok v ms
theorem RefIs.cell {base : Nat} {ok : Nat → Prop} {w : World} {r : Nat} {v : Value} {ms : List S29} (h : RefIs base ok w r v ms) : w.cell? ⟨r, 0, none⟩ = some v := (blk_cell h.1 0).trans rfl
theorem RefIs.free {base : Nat} {ok : Nat → Prop} {w : World} {r : Nat} {v : Value} {ms : List S29} (h : RefIs base ok w r v ms) : w.frozen? ⟨r, 0, none⟩ = false := blk_frozen h.1 0
theorem RefIs.lt {base : Nat} {ok : Nat → Prop} {w : World} {r : Nat} {v : Value} {ms : List S29} (h : RefIs base ok w r v ms) : r < w.heap.size := blk_lt h.1
theorem RefIs.kept {base : Nat} {ok : Nat → Prop} {w : World} {r : Nat} {v : Value} {ms : List S29} (h : RefIs base ok w r v ms) {w1 : World} (hb : Below w.heap.size w w1) : RefIs base ok w1 r v ms := ⟨blk_below h.1 hb, h.2.1, Kd.S_below h.2.2 hb⟩
theorem RefIs.old {base : Nat} {ok : Nat → Prop} {w : World} {r : Nat} {v : Value} {ms : List S29} (h : RefIs base ok w r v ms) {w1 : World} (hb : Below w.heap.size w w1) : RefIs base (fun k => ok k ∧ k < w.heap.size) w1 r v ms := ⟨blk_below h.1 hb, h.2.1, Kd.S_old h.2.2 hb⟩
theorem RefIs.mono {base : Nat} {ok : Nat → Prop} {w : World} {r : Nat} {v : Value} {ms : List S29} (h : RefIs base ok w r v ms) {ok' : Nat → Prop} (ho : ∀ k, ok k → ok' k) : RefIs base ok' w r v ms := ⟨h.1, h.2.1, Kd.S_mono h.2.2 ho⟩
theorem RefIs.far {base : Nat} {ok : Nat → Prop} {w : World} {r : Nat} {v : Value} {ms : List S29} (h : RefIs base ok w r v ms) {p : Addr} (hr : r ≠ p.block) (ho : ∀ k, ok k → k ≠ p.block) (u : Value) : RefIs base ok (w.setCell p u) r v ms := ⟨blk_far h.1 hr u, h.2.1, Kd.S_far h.2.2 ho u⟩
theorem RefIs.ne {base : Nat} {ok : Nat → Prop} {w : World} {r : Nat} {v : Value} {ms : List S29} (h : RefIs base ok w r v ms) : some r ≠ v.ownBlock := Kd.S_ne h.2.2 h.1 (by decide)
theorem own_body {base r : Nat} {ok : Nat → Prop} {wq w2 : World} {v vb : Value} {ms : List S29} {l : List Int} (hv : Kd.R (Kd.int .u8) 5 w2 wq.heap.size (fun _ => True) vb l) (h1 : RefIs base ok wq r v ms) : Kd.R (Kd.int .u8) 5 w2 base (fun k => wq.heap.size ≤ k) vb l :=
  Kd.R_lower (Kd.R_mono (Kd.R_bound hv) (fun k hk => hk.2.1)) (by have := h1.lt; have := h1.2.1; omega)
theorem send_fin {base r : Nat} {ok ok1 : Nat → Prop} {v v3 : Value} {ms ms' : List S29} {w wq w2 w3 : World} (hN : RefIs base ok w r v ms) (h1 : Below w.heap.size w wq) (h2 : Below wq.heap.size wq w2) (hG : w2.grownBy w3 v.ownBlock) (hO : Kd.S k29 29 w3 base ok1 v3 ms')
    (hX : w3.heap[r]? = some (.cells #[v] 48 (0, 0))) (hW : Below base w w3) : RefIs base ok1 (w3.setCell ⟨r, 0, none⟩ v3) r v3 ms' ∧ Below base w (w3.setCell ⟨r, 0, none⟩ v3) ∧ Kept w (w3.setCell ⟨r, 0, none⟩ v3) (fun k => k = r ∨ some k = v.ownBlock) :=
  ⟨⟨blk_put hX 0 v3 rfl, hN.2.1, Kd.S_set hO hX k29_t48 0 v3⟩, hW.setCell hN.2.1 _,
    Kept.setCell (Kept.of_grown hG ((Kept.of_below h1 _).below h2) (fun k hk => .inl (.inr hk.symm))) (.inl (.inl rfl)) _⟩
/-- A message of a net, and its cells. -/
theorem RefIs.at_ {base r n cap k : Nat} {ok : Nat → Prop} {w : World} {ao : Option Addr} {ms : List S29} {p : S29} (h : RefIs base ok w r (.slice ao n cap) ms) (hp : ms[k]? = some p) :
    ∃ b off A2 c2, n = ms.length ∧ ao = some ⟨b, off, none⟩ ∧ (w.cell? ⟨b, off + k * 3, none⟩ = some (.int .i64 p.f0) ∧ w.cell? ⟨b, off + k * 3 + 1, none⟩ = some (.int .i64 p.f1) ∧ w.cell? ⟨b, off + k * 3 + 2, none⟩ = some (.slice A2 p.f2.length c2)) ∧ p.f2.length ≤ c2 ∧ Kd.C (Kd.int .u8) w A2 p.f2.length p.f2 := by
  obtain ⟨hn, hcap, hC⟩ := Kd.S_reads' h.2.2
  have hk : k < ms.length := (List.getElem?_eq_some_iff.1 hp).1
  obtain ⟨b, off, rfl, hb, hel⟩ := LRead.C_addr hC (by decide) (by omega)
  obtain ⟨c, hc, hK, hcell⟩ := hel k p hp
  obtain ⟨A2, c2, rfl, l2, g2⟩ := k29_open hK
  exact ⟨b, off, A2, c2, hn, rfl, ⟨hcell 0 _ rfl, hcell 1 _ rfl, hcell 2 _ rfl⟩, l2, g2⟩
set_option maxHeartbeats 400000 in
theorem is_in (r n cap : Nat) (ao : Option Addr) (k : Nat) (hk : k < n) (w : World) (h : w.cell? ⟨r, 0, none⟩ = some (.slice ao n cap)) :
    Calls Try.prog 30 #[.pointer (some ⟨r, 0, none⟩), .int .i64 k] w fun e w' => e = .returned (.bool true) ∧ w = w' := by
  have hk' : (k : Int) < n := by omega
  go_enter Try.func30, Try.ntmps30
  go_wp2
  go_ret
  refine ⟨?_, rfl⟩
  simp [hk']
set_option maxHeartbeats 400000 in
theorem is_bad (r n cap : Nat) (ao : Option Addr) (i : Int) (hi : ¬ (0 ≤ i ∧ i < n)) (w : World) (h : w.cell? ⟨r, 0, none⟩ = some (.slice ao n cap)) :
    Calls Try.prog 30 #[.pointer (some ⟨r, 0, none⟩), .int .i64 i] w fun e w' => e = .returned (.bool false) ∧ w = w' := by
  by_cases q : i < 0
  · go_enter Try.func30, Try.ntmps30
    go_wp2
    go_ret
    exact ⟨rfl, rfl⟩
  · have q0 : 0 ≤ i := by omega
    have q1 : (n : Int) ≤ i := by omega
    go_enter Try.func30, Try.ntmps30
    go_wp2
    go_ret
    refine ⟨?_, rfl⟩
    simp [q1]
set_option maxHeartbeats 4000000 in
set_option maxRecDepth 100000 in
theorem rsend_ok (base r : Nat) (ok : Nat → Prop) (ao : Option Addr) (cap : Nat) (ms : List S29) (a0 a1 : Int) (A2 : Option Addr) (c2 : Nat) (l2 : List Int) (w : World) (hN : RefIs base ok w r (.slice ao ms.length cap) ms)
    (hfr : ∀ k, w.heap.size ≤ k → ok k) (hlen : ms.length < 512) (hl : l2.length ≤ 65536) (hC2 : Kd.C (Kd.int .u8) w A2 l2.length l2) (hc2 : l2.length ≤ c2) :
    Calls Try.prog 21 #[.pointer (some ⟨r, 0, none⟩), .agg #[.int .i64 a0, .int .i64 a1, .slice A2 l2.length c2]] w fun e w' => e = .returned (.int .i64 0) ∧ ∃ v', RefIs base ok w' r v' (ms ++ [⟨a0, a1, l2⟩]) ∧ Below base w w' ∧ Kept w w' (fun k => k = r ∨ some k = (Value.slice ao ms.length cap).ownBlock) := by
  have hC := hN.cell
  have hF := hN.free
  have hL := hN.lt
  have HN := Lib.hid hN
  clear hN
  have HC2 := Lib.hid hC2
  clear hC2
  go_enter Try.func21, Try.ntmps21
  go_upto_region 5 with ((with_reducible refine gate_dst (N := 3) rfl ?_); refine box_event ?hg (N := 3) ?hd (cs := #[.int .i64 a0, .int .i64 a1, .slice A2 l2.length c2]) (t := 29) ?hr ?_; (case hd => rfl); (case hg => rfl); (case hr => first | (go_simp; done) | (go_simp; rfl)); intro gb hg w1 hbox hb; have hX := Lib.hid hbox; have hN1 := HN.out.kept hb; have HN1 := Lib.hid hN1; have hC1 := hN1.cell; have hF1 := hN1.free; have hB1 := Lib.hid hb; have hx0 := (blk_cell hbox 0).trans rfl; have hx1 := (blk_cell hbox 1).trans rfl; have hx2 := (blk_cell hbox 2).trans rfl; have hg1 := Lib.hid hg; clear hN1 hbox hb hg hC hF)
  generalize hwq : w1 = wq at *
  clear hx0 hx1 hx2
  have hx0 : wq.cell? ⟨gb, 0, none⟩ = some (.int .i64 a0) := (blk_cell hX.out 0).trans rfl
  have hx1 : wq.cell? ⟨gb, 1, none⟩ = some (.int .i64 a1) := (blk_cell hX.out 1).trans rfl
  have hx2 : wq.cell? ⟨gb, 2, none⟩ = some (.slice A2 l2.length c2) := (blk_cell hX.out 2).trans rfl
  have hL1 : r < wq.heap.size := HN1.out.lt
  have hf : Hid (juratref24_Copy.f a0 a1 l2 = some (a0, a1, l2)) := copy_is a0 a1 l2 hl
  clear hL hwq
  go_region_law (first | (go_simp; (with_reducible go_at_call 13); go_must (refine (juratref24_Copy.calls a0 a1 A2 c2 l2 a0 a1 l2 _ (by first | exact Kd.C_below HC2.out hB1.out | exact Kd.C_drew (Kd.C_below HC2.out hB1.out)) hc2 hf.out).mono ?_; rintro e w2 ⟨vb, rfl, hvb, hb2⟩; have hb2 : Below wq.heap.size wq w2 := ⟨hb2.os, hb2.tape, hb2.output, hb2.size, hb2.block⟩; have hN2 := RefIs.old (w := wq) HN1.out hb2; have hC2_ := hN2.cell; have hF2 := hN2.free; have hL2 := hN2.lt; have HN2 := Lib.hid hN2; have HV := Lib.hid hvb; have hB2 := Lib.hid hb2; clear hN2 hvb hb2)) | ((refine Kd.S_append_step k29 (w0 := w) base rfl (.tmp 19) (.tmp 22) 39 29 (.agg #[.int .i64 0, .int .i64 0, .slice none 0 0]) 40 rfl Try.underlying39 info29 rfl (by decide) (by decide) (.slice ao ms.length cap) ms ⟨a0, a1, l2⟩ [.int .i64 a0, .int .i64 a1, vb] ok (fun k => wq.heap.size ≤ k) rfl rfl ?hp (fun k h => ⟨hfr k (Nat.le_trans hB1.out.size h), fun e => by have := Kd.S_lt HN1.out.2.2 k e.symm; omega⟩) (fun k h => hfr k (Nat.le_trans hB1.out.size (Nat.le_trans hB2.out.size h))) (Kd.S_mono HN2.out.2.2 (fun k hk => ⟨hk.1, by omega⟩)) ?hB ?hb (by omega) ?_); (case hp => exact k29_mkM _ _ _ ⟨a0, a1, l2⟩ (own_body HV.out HN1.out)); (case hB => exact (Below.mono hB1.out (by have := HN.out.lt; have := HN.out.2.1; omega)).trans (Below.mono hB2.out (by have := HN1.out.lt; have := HN1.out.2.1; omega))); (case hb => (have := HN2.out.lt; have := HN2.out.2.1; omega)); intro v1 w3 ho hbw hg hat; obtain ⟨ao3, co3, rfl⟩ := Kd.S_slice ho; simp only [List.length_append, List.length_cons, List.length_nil, Nat.zero_add] at ho; have hX3 := blk_grown HN2.out.1 hg HN2.out.ne; have hC3 := (blk_cell hX3 0).trans rfl; have hC3 : w3.cell? ⟨r, 0, none⟩ = some (.slice ao ms.length cap) := hC3; have hF3 := blk_frozen hX3 0; have HO := Lib.hid ho; have HW := Lib.hid hbw; have HG := Lib.hid hg; have HX3 := Lib.hid hX3; clear ho hbw hg hat hX3))
  all_goals
    go_wp2
    go_ret
    exact ⟨rfl, _, send_fin HN.out hB1.out hB2.out HG.out HO.out HX3.out HW.out⟩
set_option maxHeartbeats 4000000 in
set_option maxRecDepth 100000 in
theorem rlook_ok (base r k : Nat) (ok : Nat → Prop) (ao : Option Addr) (cap : Nat) (ms : List S29) (p : S29) (w : World) (hN : RefIs base ok w r (.slice ao ms.length cap) ms) (hp : ms[k]? = some p) (hl : p.f2.length ≤ 65536) :
    Calls Try.prog 22 #[.pointer (some ⟨r, 0, none⟩), .int .i64 k] w fun e w' => ∃ vb, e = .returned (.tuple #[.agg #[.int .i64 p.f0, .int .i64 p.f1, vb], .int .i64 0]) ∧ Kd.R (Kd.int .u8) 5 w' w.heap.size (fun _ => True) vb p.f2 ∧ Below w.heap.size w w' := by
  have hk : k < ms.length := (List.getElem?_eq_some_iff.1 hp).1
  have hf : Hid (juratref24_Copy.f p.f0 p.f1 p.f2 = some (p.f0, p.f1, p.f2)) := copy_is _ _ _ hl
  obtain ⟨b, off, A2, c2, _, rfl, _, _⟩ := hN.at_ hp
  have HN := Lib.hid hN
  have HP := Lib.hid hp
  clear hN hp
  go_enter Try.func22, Try.ntmps22
  go_wp2_with (first | ((with_reducible refine gate_dst (N := 4) rfl ?_); refine box_event ?hg (N := 4) ?hd (cs := #[.int .i64 0, .int .i64 0, .slice none 0 0]) (t := 29) ?hr ?_; (case hd => rfl); (case hg => rfl); (case hr => first | (go_simp; done) | (go_simp; rfl)); intro gb hg w1 hbox hb; have hX := Lib.hid hbox; have HN1 := Lib.hid (HN.out.kept hb); have hC1 := HN1.out.cell; obtain ⟨b1, off1, A2, c2, _, e1_, hE, hc2, hC2⟩ := HN1.out.at_ HP.out; obtain ⟨rfl, rfl⟩ : b = b1 ∧ off = off1 := (by simpa using e1_); clear e1_; have HC2 := Lib.hid hC2; have hB1 := Lib.hid hb; have hg1 := Lib.hid hg; clear hbox hb hg hC2) | ((with_reducible go_at_call 30); go_must (refine (is_in r ms.length cap _ k hk _ hC1).mono ?_; rintro e w' ⟨rfl, rfl⟩)) | ((with_reducible go_at_call 13); go_must (refine (juratref24_Copy.calls p.f0 p.f1 A2 c2 p.f2 p.f0 p.f1 p.f2 _ HC2.out hc2 hf.out).mono ?_; rintro e w2 ⟨vb, rfl, hvb, hb2⟩; have hX2 := blk_below hX.out hb2; have HX2 := Lib.hid hX2; have hY0 := (blk_cell hX2 0).trans rfl; have hY0 : w2.cell? ⟨gb, 0, none⟩ = some (.int .i64 0) := hY0; have hY1 := (blk_cell hX2 1).trans rfl; have hY1 : w2.cell? ⟨gb, 1, none⟩ = some (.int .i64 0) := hY1; have hY2 := (blk_cell hX2 2).trans rfl; have hY2 : w2.cell? ⟨gb, 2, none⟩ = some (.slice none 0 0) := hY2; have hZ0 := blk_frozen hX2 0; have hZ1 := blk_frozen hX2 1; have hZ2 := blk_frozen hX2 2; obtain ⟨Av, cv, rfl⟩ := Kd.R_slice hvb; have HV := Lib.hid hvb; have HB2 := Lib.hid hb2; clear hvb hb2 hX2)))
  obtain ⟨q1, q2⟩ := look_fin hB1.out HB2.out HX2.out hg1.out HV.out
  refine bodyPost_ret (results_ct rfl _ _ gb 29 #[.int .i64 p.f0, .int .i64 p.f1, .slice Av p.f2.length cv] (0, 0) _ rfl (blk_put (blk_put (blk_put HX2.out 0 _ rfl) 1 _ rfl) 2 _ rfl) Try.underlying29 rfl (by kernel_rfl)) rfl ?_
  exact ⟨_, rfl, q1, q2⟩
set_option maxHeartbeats 4000000 in
set_option maxRecDepth 100000 in
theorem rtwice_ok (base r k : Nat) (ok : Nat → Prop) (ao : Option Addr) (cap : Nat) (ms : List S29) (p : S29) (w : World) (hN : RefIs base ok w r (.slice ao ms.length cap) ms) (hp : ms[k]? = some p) (hl : p.f2.length ≤ 65536) (hfr : ∀ k, w.heap.size ≤ k → ok k) (hlen : ms.length < 512) :
    Calls Try.prog 24 #[.pointer (some ⟨r, 0, none⟩), .int .i64 k] w fun e w' => e = .returned (.int .i64 0) ∧ ∃ v', RefIs base ok w' r v' (ms ++ [p]) ∧ Below base w w' ∧ Kept w w' (fun k => k = r ∨ some k = (Value.slice ao ms.length cap).ownBlock) := by
  have hk : k < ms.length := (List.getElem?_eq_some_iff.1 hp).1
  obtain ⟨b, off, A2, c2, _, rfl, hE, hc2, hC2⟩ := hN.at_ hp
  have hC1 := hN.cell
  have HN := Lib.hid hN
  have HC2 := Lib.hid hC2
  clear hN hp hC2
  go_enter Try.func24, Try.ntmps24
  go_wp2_with (first | ((with_reducible go_at_call 30); go_must (refine (is_in r ms.length cap _ k hk _ hC1).mono ?_; rintro e w' ⟨rfl, rfl⟩)) | ((with_reducible go_at_call 21); go_must (refine (rsend_ok base r ok _ cap ms p.f0 p.f1 A2 c2 p.f2 _ HN.out hfr hlen hl HC2.out hc2).mono ?_; rintro e w' ⟨rfl, h⟩; have hS := Lib.hid h; clear h)))
  go_ret
  exact ⟨rfl, hS.out⟩
set_option maxHeartbeats 400000 in
theorem rall_ok (base r : Nat) (ok : Nat → Prop) (ao : Option Addr) (n cap : Nat) (ms : List S29) (w : World) (hN : RefIs base ok w r (.slice ao n cap) ms) :
    Calls Try.prog 26 #[.pointer (some ⟨r, 0, none⟩)] w fun e w' => e = .returned (.slice ao n cap) ∧ Kd.S k29 29 w' base ok (.slice ao n cap) ms ∧ RefIs base ok w' r (.slice none 0 0) [] ∧ Below base w w' ∧ Kept w w' (fun k => k = r) := by
  have hC := hN.cell
  have hF := hN.free
  have HN := Lib.hid hN
  clear hN
  go_enter Try.func26, Try.ntmps26
  go_wp2
  go_ret
  exact ⟨rfl, Kd.S_set HN.out.2.2 HN.out.1 k29_t48 0 _, ⟨blk_put HN.out.1 0 _ rfl, HN.out.2.1, Kd.S_nil _ _ _ _ _⟩, (Below.refl _ _).setCell HN.out.2.1 _, ((Below.refl _ _).setCell HN.out.2.1 _).size, fun k hk hn => Below.heap_setCell _ ⟨r, 0, none⟩ _ k hn⟩
/-- A byte of a message's body, and the net behind a store into it. -/
theorem RefIs.byte {base r n cap k j : Nat} {ok : Nat → Prop} {w : World} {ao : Option Addr} {ms : List S29} {p : S29} (h : RefIs base ok w r (.slice ao n cap) ms) (hp : ms[k]? = some p) (hj : j < p.f2.length) :
    ∃ b g2 cap2, n = ms.length ∧ ao = some ⟨b, 0, none⟩ ∧ (w.cell? ⟨b, k * 3, none⟩ = some (.int .i64 p.f0) ∧ w.cell? ⟨b, k * 3 + 1, none⟩ = some (.int .i64 p.f1) ∧ w.cell? ⟨b, k * 3 + 2, none⟩ = some (.slice (some ⟨g2, 0, none⟩) p.f2.length cap2)) ∧
      w.cell? ⟨g2, j, none⟩ = some (.int .u8 (rd p.f2 j)) ∧ w.frozen? ⟨g2, j, none⟩ = false ∧ ok g2 ∧ ∀ x : Int, RefIs base ok (w.setCell ⟨g2, j, none⟩ (.int .u8 x)) r (.slice ao n cap) (ms.set k ⟨p.f0, p.f1, p.f2.set j x⟩) ∧ Below base w (w.setCell ⟨g2, j, none⟩ (.int .u8 x)) := by
  have hk : k < ms.length := (List.getElem?_eq_some_iff.1 hp).1
  obtain ⟨hX, hr, hS⟩ := h
  obtain ⟨g, cp, hv, hbg, hgl, _⟩ := Kd.S_form hS (by omega)
  simp only [Value.slice.injEq] at hv
  obtain ⟨rfl, rfl, rfl⟩ := hv
  obtain ⟨oki, c, hcl, hM, hcell, hoki, hH⟩ := Kd.S_lend hS z29 (k : Int) (by omega) (by omega)
  have hpe : ms.getD (k : Int).toNat z29 = p := by simp [List.getD, hp]
  rw [hpe] at hM
  obtain ⟨v2, rfl, hR⟩ := k29_openM hM
  obtain ⟨g2, cap2, rfl, hb2, _, cells2, hX2⟩ := Kd.R_form hR (by omega)
  have hC := (Kd.R_reads' hR).2.2
  obtain ⟨b, off, he, _, hel⟩ := LRead.C_addr hC (by decide) (by omega)
  simp only [Option.some.injEq, Addr.mk.injEq] at he
  obtain ⟨rfl, rfl, _⟩ := he
  obtain ⟨c1, hc1, hK1, hcell1⟩ := hel j (p.f2[j]) (by simp)
  have hj1 : w.cell? ⟨g2, j, none⟩ = some (.int .u8 (rd p.f2 j)) := by
    have hK2 : c1 = [.int .u8 p.f2[j]] := hK1
    subst hK2
    have e1 : (0 : Nat) + j * (Kd.int .u8).sz + 0 = j := by show 0 + j * 1 + 0 = j; omega
    have := hcell1 0 _ rfl
    rw [e1] at this
    rw [this]
    unfold rd
    simp [List.getD, List.getElem?_eq_getElem hj]
  refine ⟨g, g2, cap2, rfl, rfl, ⟨?_, ?_, ?_⟩, hj1, blk_frozen hX2 j, (hoki _ (hR.1 _ rfl)).1, fun x => ?_⟩
  · exact hcell 0 _ rfl
  · exact hcell 1 _ rfl
  · exact hcell 2 _ rfl
  · obtain ⟨hR', hG⟩ := Kd.R_put hR (j : Int) x
    have hH' := Kd.H_grown hH hG (fun q hq => by injection hq with hq; subst hq; exact hR.1 _ rfl)
    have hB := Kd.H_back hH' (x' := ⟨p.f0, p.f1, p.f2.set j x⟩) (okp := oki) (by
      have := k29_mkM (w.setCell ⟨g2, (j : Int).toNat, none⟩ (.int .u8 x)) base oki ⟨p.f0, p.f1, p.f2.set j x⟩ (v2 := .slice (some ⟨g2, 0, none⟩) p.f2.length cap2) hR'
      exact this) (fun _ hq => hq)
    have hne : r ≠ g2 := blk_ne hX hX2 (by decide)
    exact ⟨⟨blk_far (p := ⟨g2, j, none⟩) hX hne _, hr, by simpa using hB⟩, (Below.refl _ _).setCell hb2 _⟩
set_option maxHeartbeats 4000000 in
set_option maxRecDepth 100000 in
theorem rspoil_ok (base r k j : Nat) (ok : Nat → Prop) (ao : Option Addr) (cap : Nat) (ms : List S29) (p : S29) (m : Int) (w : World) (hN : RefIs base ok w r (.slice ao ms.length cap) ms) (hp : ms[k]? = some p) (hj : j < p.f2.length) (hl : p.f2.length ≤ 65536) :
    Calls Try.prog 25 #[.pointer (some ⟨r, 0, none⟩), .int .i64 k, .int .i64 j, .int .u8 m] w fun e w' => e = .returned (.int .i64 0) ∧ RefIs base ok w' r (.slice ao ms.length cap) (ms.set k ⟨p.f0, p.f1, p.f2.set j (Go.bits .xor .u8 (rd p.f2 j) m)⟩) ∧ Below base w w' ∧ Kept w w' ok := by
  have hk : k < ms.length := (List.getElem?_eq_some_iff.1 hp).1
  obtain ⟨b, g2, cap2, _, rfl, hE, hj1, hj2, hog, hS⟩ := hN.byte hp hj
  have hC1 := hN.cell
  have HS := Lib.hid hS
  clear hN hp hS
  have hj3 : (j : Int) < p.f2.length := by omega
  go_enter Try.func25, Try.ntmps25
  go_upto_region 3 with (first | ((with_reducible go_at_call 30); go_must (refine (is_in r ms.length cap _ k hk _ hC1).mono ?_; rintro e w' ⟨rfl, rfl⟩)))
  go_region_law (first | fail)
  all_goals
    go_wp2
    go_ret
    have hS_ := HS.out (Go.bits .xor .u8 (rd p.f2 j) m)
    exact ⟨rfl, hS_.1.kept (below_drew1 (Below.refl _ _)), below_drew1 hS_.2, hS_.2.size, fun k hk hn => Below.heap_setCell _ ⟨g2, j, none⟩ _ k (fun e => hn (by rw [e]; exact hog))⟩
end Go.Proofs.Ytglhojkchpbnkaa.NetR
