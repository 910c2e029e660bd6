/- x -/
import Derived.Test.YtglhojkchpbnkaaNetP
import Derived.Test.YtglhojkchpbnkaaLRead
import Derived.WalkKit
import Derived.WalkSpells
import Derived.WalkLawsBesides
import Derived.Outline
import Derived.Lib.Hide
import Derived.Deep.LoopGhost
import Derived.Deep.RegionHeld3
import Derived.Deep.DeepCutAuto
import Derived.Deep.RegionLaw
import Derived.Deep.AppendLies
namespace Go.Proofs.Ytglhojkchpbnkaa.Net
open Go.RowKit Go.Proofs.Ytglhojkchpbnkaa.PNetPlays Go.Proofs.YtglhojkchpbnkaaW.PrintWords Go.Proofs.YtglhojkchpbnkaaW.PrintLast Go.Proofs.YtglhojkchpbnkaaW.PrintMore
set_option linter.unusedSimpArgs false
set_option linter.unusedVariables false
/-- A net at block r: its slice is v; it owns its messages ms, with their bodies. -/
def NetIs (base : Nat) (w : World) (r : Nat) (v : Value) (ms : List S29) : Prop := w.heap[r]? = some (.cells #[v] 57 (0, 0)) ∧ base ≤ r ∧ Kd.R k29 29 w base (fun _ => True) v ms
theorem NetIs.cell {base : Nat} {w : World} {r : Nat} {v : Value} {ms : List S29} (h : NetIs base w r v ms) : w.cell? ⟨r, 0, none⟩ = some v := (blk_cell h.1 0).trans rfl
theorem NetIs.free {base : Nat} {w : World} {r : Nat} {v : Value} {ms : List S29} (h : NetIs base w r v ms) : w.frozen? ⟨r, 0, none⟩ = false := blk_frozen h.1 0
theorem NetIs.lt {base : Nat} {w : World} {r : Nat} {v : Value} {ms : List S29} (h : NetIs base w r v ms) : r < w.heap.size := blk_lt h.1
theorem NetIs.kept {base : Nat} {w w1 : World} {r : Nat} {v : Value} {ms : List S29} (h : NetIs base w r v ms) (hb : Below w.heap.size w w1) : NetIs base w1 r v ms :=
  ⟨blk_below h.1 hb, h.2.1, Kd.R_below h.2.2 hb⟩
theorem NetIs.ne {base : Nat} {w : World} {r : Nat} {v : Value} {ms : List S29} (h : NetIs base w r v ms) : some r ≠ v.ownBlock := Kd.R_ne h.2.2 h.1 (by decide)
theorem k29_types : ∀ q, q ∈ 29 :: k29.E → q ≠ 57 := by decide
theorem own_body {base r : Nat} {wq w2 : World} {v vb : Value} {ms : List S29} {l : List Int} (hv : Kd.R (Kd.int .u8) 5 w2 wq.heap.size (fun _ => True) vb l) (h1 : NetIs base wq r v ms) : Kd.R (Kd.int .u8) 5 w2 base (fun k => some k ≠ v.ownBlock) vb l :=
  Kd.R_lower (Kd.R_mono (Kd.R_bound hv) (fun k hk e => by have := Kd.R_lt h1.2.2 k e.symm; have := hk.2.1; omega)) (by have := h1.lt; have := h1.2.1; omega)
theorem send_fin {base r : Nat} {v v3 : Value} {ms ms' : List S29} {w wq w2 w3 : World} (hN : NetIs base w r v ms) (h1 : Below w.heap.size w wq) (h2 : Below wq.heap.size wq w2) (hG : w2.grownBy w3 v.ownBlock) (hO : Kd.R k29 29 w3 base (fun _ => True) v3 ms')
    (hX : w3.heap[r]? = some (.cells #[v] 57 (0, 0))) (hW : Below base w w3) : NetIs base (w3.setCell ⟨r, 0, none⟩ v3) r v3 ms' ∧ Below base w (w3.setCell ⟨r, 0, none⟩ v3) ∧ Kept w (w3.setCell ⟨r, 0, none⟩ v3) (fun k => k = r ∨ some k = v.ownBlock) :=
  ⟨⟨blk_put hX 0 v3 rfl, hN.2.1, Kd.R_mono (Kd.R_far (p := ⟨r, 0, none⟩) (Kd.R_types hO hX k29_types) (fun _ hk => hk.2) v3) (fun _ _ => trivial)⟩, hW.setCell hN.2.1 _,
    Kept.setCell (Kept.of_grown hG ((Kept.of_below h1 _).below h2) (fun k hk => .inl (.inr hk.symm))) (.inl (.inl rfl)) _⟩
theorem info29 : (Try.prog.info? 29).map (fun i => (i.zero, i.size, i.bytes)) = some (some (.agg #[.int .i64 0, .int .i64 0, .slice none 0 0]), 3, 40) := by kernel_rfl
theorem own_is (a0 a1 : Int) (l : List Int) (h : l.length ≤ 65536) : net_own.f a0 a1 l = some (a0, a1, l) := by
  unfold net_own.f
  simp only [Option.bind_some, List.nil_append, List.length_nil]
  rw [if_pos (by omega)]
set_option maxHeartbeats 4000000 in
set_option maxRecDepth 100000 in
theorem send_ok (base r : Nat) (ao : Option Addr) (cap : Nat) (ms : List S29) (a0 a1 : Int) (A2 : Option Addr) (c2 : Nat) (l2 : List Int) (w : World) (hN : NetIs base w r (.slice ao ms.length cap) ms)
    (hlen : ms.length < 512) (hl : l2.length ≤ 65536) (hC2 : Kd.C (Kd.int .u8) w A2 l2.length l2) (hc2 : l2.length ≤ c2) :
    Calls Try.prog 10 #[.pointer (some ⟨r, 0, none⟩), .agg #[.int .i64 a0, .int .i64 a1, .slice A2 l2.length c2]] w fun e w' => e = .returned (.int .i64 0) ∧ ∃ v', NetIs base w' r v' (ms ++ [⟨a0, a1, l2⟩]) ∧ Below base w w' ∧ Kept w w' (fun k => k = r ∨ some k = (Value.slice ao ms.length cap).ownBlock) := by
  have hC := hN.cell
  have hF := hN.free
  have hL := hN.lt
  have HN := Lib.hid hN
  clear hN
  have HC2 := Lib.hid hC2
  clear hC2
  go_enter Try.func10, Try.ntmps10
  go_upto_region 7 with ((with_reducible refine gate_dst (N := 3) rfl ?_); refine box_event ?hg (N := 3) ?hd (cs := #[.int .i64 a0, .int .i64 a1, .slice A2 l2.length c2]) (t := 29) ?hr ?_; (case hd => rfl); (case hg => rfl); (case hr => first | (go_simp; done) | (go_simp; rfl)); intro gb hg w1 hbox hb; have hX := Lib.hid hbox; have hN1 := HN.out.kept hb; have HN1 := Lib.hid hN1; have hC1 := hN1.cell; have hF1 := hN1.free; have hB1 := Lib.hid hb; have hx0 := (blk_cell hbox 0).trans rfl; have hx1 := (blk_cell hbox 1).trans rfl; have hx2 := (blk_cell hbox 2).trans rfl; have hg1 := Lib.hid hg; clear hN1 hbox hb hg hC hF)
  generalize hwq : w1 = wq at *
  clear hx0 hx1 hx2
  have hx0 : wq.cell? ⟨gb, 0, none⟩ = some (.int .i64 a0) := (blk_cell hX.out 0).trans rfl
  have hx1 : wq.cell? ⟨gb, 1, none⟩ = some (.int .i64 a1) := (blk_cell hX.out 1).trans rfl
  have hx2 : wq.cell? ⟨gb, 2, none⟩ = some (.slice A2 l2.length c2) := (blk_cell hX.out 2).trans rfl
  have hL1 : r < wq.heap.size := HN1.out.lt
  have hf : Hid (net_own.f a0 a1 l2 = some (a0, a1, l2)) := own_is a0 a1 l2 hl
  clear hL hwq
  go_region_law (first | (go_simp; (with_reducible go_at_call 27); go_must (refine (net_own.calls a0 a1 A2 c2 l2 a0 a1 l2 _ (by first | exact Kd.C_below HC2.out hB1.out | exact Kd.C_drew (Kd.C_below HC2.out hB1.out)) hc2 hf.out).mono ?_; rintro e w2 ⟨vb, rfl, hvb, hb2⟩; have hb2 : Below wq.heap.size wq w2 := ⟨hb2.os, hb2.tape, hb2.output, hb2.size, hb2.block⟩; have hN2 := NetIs.kept (w := wq) HN1.out hb2; have hC2_ := hN2.cell; have hF2 := hN2.free; have hL2 := hN2.lt; have HN2 := Lib.hid hN2; have HV := Lib.hid hvb; have hB2 := Lib.hid hb2; clear hN2 hvb hb2)) | ((refine Kd.R_append_step k29 (w0 := w) base rfl (.tmp 24) (.tmp 27) 39 29 (.agg #[.int .i64 0, .int .i64 0, .slice none 0 0]) 40 rfl Try.underlying39 info29 rfl (by decide) (by decide) (.slice ao ms.length cap) ms ⟨a0, a1, l2⟩ [.int .i64 a0, .int .i64 a1, vb] (fun _ => True) (fun k => some k ≠ (Value.slice ao ms.length cap).ownBlock) rfl rfl ?hp (fun _ h => ⟨trivial, h⟩) (fun _ _ => trivial) HN2.out.2.2 ?hB ?hb (by omega) ?_); (case hp => exact k29_mkM _ _ _ ⟨a0, a1, l2⟩ (own_body HV.out HN1.out)); (case hB => exact (Below.mono hB1.out (by have := HN.out.lt; have := HN.out.2.1; omega)).trans (Below.mono hB2.out (by have := HN1.out.lt; have := HN1.out.2.1; omega))); (case hb => (have := HN2.out.lt; have := HN2.out.2.1; omega)); intro v1 w3 ho hbw hg hat; obtain ⟨ao3, co3, rfl⟩ := Kd.R_slice ho; simp only [List.length_append, List.length_cons, List.length_nil, Nat.zero_add] at ho; have hX3 := blk_grown HN2.out.1 hg HN2.out.ne; have hC3 := (blk_cell hX3 0).trans rfl; have hC3 : w3.cell? ⟨r, 0, none⟩ = some (.slice ao ms.length cap) := hC3; have hF3 := blk_frozen hX3 0; have HO := Lib.hid ho; have HW := Lib.hid hbw; have HG := Lib.hid hg; have HX3 := Lib.hid hX3; clear ho hbw hg hat hX3))
  all_goals
    go_wp2
    go_ret
    exact ⟨rfl, _, send_fin HN.out hB1.out hB2.out HG.out HO.out HX3.out HW.out⟩
/-- A message of a net, and its cells. -/
theorem NetIs.at_ {base r n cap k : Nat} {w : World} {ao : Option Addr} {ms : List S29} {p : S29} (h : NetIs base w r (.slice ao n cap) ms) (hp : ms[k]? = some p) :
    ∃ b off A2 c2, n = ms.length ∧ ao = some ⟨b, off, none⟩ ∧ (w.cell? ⟨b, off + k * 3, none⟩ = some (.int .i64 p.f0) ∧ w.cell? ⟨b, off + k * 3 + 1, none⟩ = some (.int .i64 p.f1) ∧ w.cell? ⟨b, off + k * 3 + 2, none⟩ = some (.slice A2 p.f2.length c2)) ∧ p.f2.length ≤ c2 ∧ Kd.C (Kd.int .u8) w A2 p.f2.length p.f2 := by
  obtain ⟨hn, hcap, hC⟩ := Kd.R_reads' h.2.2
  have hk : k < ms.length := (List.getElem?_eq_some_iff.1 hp).1
  obtain ⟨b, off, rfl, hb, hel⟩ := LRead.C_addr hC (by decide) (by omega)
  obtain ⟨c, hc, hK, hcell⟩ := hel k p hp
  obtain ⟨A2, c2, rfl, l2, g2⟩ := k29_open hK
  exact ⟨b, off, A2, c2, hn, rfl, ⟨hcell 0 _ rfl, hcell 1 _ rfl, hcell 2 _ rfl⟩, l2, g2⟩
set_option maxHeartbeats 400000 in
theorem len_is (r n cap : Nat) (ao : Option Addr) (w : World) (h : w.cell? ⟨r, 0, none⟩ = some (.slice ao n cap)) :
    Calls Try.prog 11 #[.pointer (some ⟨r, 0, none⟩)] w fun e w' => e = .returned (.int .i64 n) ∧ w = w' := by
  go_enter Try.func11, Try.ntmps11
  go_wp2
  go_ret
  exact ⟨rfl, rfl⟩
set_option maxHeartbeats 400000 in
theorem at_in (r b off n cap k : Nat) (hk : k < n) (w : World) (h : w.cell? ⟨r, 0, none⟩ = some (.slice (some ⟨b, off, none⟩) n cap)) :
    Calls Try.prog 28 #[.pointer (some ⟨r, 0, none⟩), .int .i64 k] w fun e w' => e = .returned (.tuple #[.pointer (some ⟨b, off + k * 3, none⟩), .int .i64 0]) ∧ w = w' := by
  have hk' : (k : Int) < n := by omega
  go_enter Try.func28, Try.ntmps28
  go_wp2
  go_ret2
  exact ⟨rfl, rfl⟩
theorem look_fin {w w1 w2 : World} {gb : Nat} {a b u vb : Value} {l : List Int} {cs : Array Value} (h1 : Below w.heap.size w w1) (h2 : Below w1.heap.size w1 w2) (hX : w2.heap[gb]? = some (.cells cs 29 (0, 0))) (hg : gb = w.heap.size)
    (hV : Kd.R (Kd.int .u8) 5 w2 w1.heap.size (fun _ => True) vb l) : Kd.R (Kd.int .u8) 5 (((w2.setCell ⟨gb, 0, none⟩ a).setCell ⟨gb, 1, none⟩ b).setCell ⟨gb, 2, none⟩ u) w.heap.size (fun _ => True) vb l ∧ Below w.heap.size w (((w2.setCell ⟨gb, 0, none⟩ a).setCell ⟨gb, 1, none⟩ b).setCell ⟨gb, 2, none⟩ u) :=
  ⟨Kd.R_mono (Kd.R_far (p := ⟨gb, 2, none⟩) (Kd.R_far (p := ⟨gb, 1, none⟩) (Kd.R_far (p := ⟨gb, 0, none⟩) (Kd.R_types (Kd.R_lower hV h1.size) hX (by decide)) (fun _ hk => hk.2) a) (fun _ hk => hk.2) b) (fun _ hk => hk.2) u) (fun _ _ => trivial),
    below_set (below_set (below_set (below_step h1 h2) (by omega)) (by omega)) (by omega)⟩
set_option maxHeartbeats 4000000 in
set_option maxRecDepth 100000 in
theorem look_ok (base r k : Nat) (ao : Option Addr) (cap : Nat) (ms : List S29) (p : S29) (w : World) (hN : NetIs base w r (.slice ao ms.length cap) ms) (hp : ms[k]? = some p) (hl : p.f2.length ≤ 65536) :
    Calls Try.prog 14 #[.pointer (some ⟨r, 0, none⟩), .int .i64 k] w fun e w' => ∃ vb, e = .returned (.tuple #[.agg #[.int .i64 p.f0, .int .i64 p.f1, vb], .int .i64 0]) ∧ Kd.R (Kd.int .u8) 5 w' w.heap.size (fun _ => True) vb p.f2 ∧ Below w.heap.size w w' := by
  have hk : k < ms.length := (List.getElem?_eq_some_iff.1 hp).1
  have hf : Hid (net_own.f p.f0 p.f1 p.f2 = some (p.f0, p.f1, p.f2)) := own_is _ _ _ hl
  obtain ⟨b, off, A2, c2, _, rfl, _, _⟩ := hN.at_ hp
  have HN := Lib.hid hN
  have HP := Lib.hid hp
  clear hN hp
  go_enter Try.func14, Try.ntmps14
  go_wp2_with (first | ((with_reducible refine gate_dst (N := 4) rfl ?_); refine box_event ?hg (N := 4) ?hd (cs := #[.int .i64 0, .int .i64 0, .slice none 0 0]) (t := 29) ?hr ?_; (case hd => rfl); (case hg => rfl); (case hr => first | (go_simp; done) | (go_simp; rfl)); intro gb hg w1 hbox hb; have hX := Lib.hid hbox; have HN1 := Lib.hid (HN.out.kept hb); have hC1 := HN1.out.cell; obtain ⟨b1, off1, A2, c2, _, e1_, hE, hc2, hC2⟩ := HN1.out.at_ HP.out; obtain ⟨rfl, rfl⟩ : b = b1 ∧ off = off1 := (by simpa using e1_); clear e1_; have HC2 := Lib.hid hC2; have hB1 := Lib.hid hb; have hg1 := Lib.hid hg; clear hbox hb hg hC2) | ((with_reducible go_at_call 28); go_must (refine (at_in r _ _ ms.length cap k hk _ hC1).mono ?_; rintro e w' ⟨rfl, rfl⟩)) | ((with_reducible go_at_call 27); go_must (refine (net_own.calls p.f0 p.f1 A2 c2 p.f2 p.f0 p.f1 p.f2 _ HC2.out hc2 hf.out).mono ?_; rintro e w2 ⟨vb, rfl, hvb, hb2⟩; have hX2 := blk_below hX.out hb2; have HX2 := Lib.hid hX2; have hY0 := (blk_cell hX2 0).trans rfl; have hY0 : w2.cell? ⟨gb, 0, none⟩ = some (.int .i64 0) := hY0; have hY1 := (blk_cell hX2 1).trans rfl; have hY1 : w2.cell? ⟨gb, 1, none⟩ = some (.int .i64 0) := hY1; have hY2 := (blk_cell hX2 2).trans rfl; have hY2 : w2.cell? ⟨gb, 2, none⟩ = some (.slice none 0 0) := hY2; have hZ0 := blk_frozen hX2 0; have hZ1 := blk_frozen hX2 1; have hZ2 := blk_frozen hX2 2; obtain ⟨Av, cv, rfl⟩ := Kd.R_slice hvb; have HV := Lib.hid hvb; have HB2 := Lib.hid hb2; clear hvb hb2 hX2)))
  obtain ⟨q1, q2⟩ := look_fin hB1.out HB2.out HX2.out hg1.out HV.out
  refine bodyPost_ret (results_ct rfl _ _ gb 29 #[.int .i64 p.f0, .int .i64 p.f1, .slice Av p.f2.length cv] (0, 0) _ rfl (blk_put (blk_put (blk_put HX2.out 0 _ rfl) 1 _ rfl) 2 _ rfl) Try.underlying29 rfl (by kernel_rfl)) rfl ?_
  exact ⟨_, rfl, q1, q2⟩
set_option maxHeartbeats 400000 in
theorem at_nil (i : Int) (w : World) : Calls Try.prog 28 #[.pointer none, .int .i64 i] w fun e w' => e = .returned (.tuple #[.pointer none, .int .i64 2]) ∧ w = w' := by
  go_enter Try.func28, Try.ntmps28
  go_wp2
  go_ret2
  exact ⟨rfl, rfl⟩
set_option maxHeartbeats 400000 in
theorem len_nil (w : World) : Calls Try.prog 11 #[.pointer none] w fun e w' => e = .returned (.int .i64 0) ∧ w = w' := by
  go_enter Try.func11, Try.ntmps11
  go_wp2
  go_ret
  exact ⟨rfl, rfl⟩
set_option maxHeartbeats 400000 in
theorem all_nil (w : World) : Calls Try.prog 17 #[.pointer none] w fun e w' => e = .returned (.slice none 0 0) ∧ w = w' := by
  go_enter Try.func17, Try.ntmps17
  go_wp2
  go_ret
  exact ⟨rfl, rfl⟩
set_option maxHeartbeats 400000 in
theorem twice_nil (i : Int) (w : World) : Calls Try.prog 12 #[.pointer none, .int .i64 i] w fun e w' => e = .returned (.int .i64 2) ∧ w = w' := by
  go_enter Try.func12, Try.ntmps12
  go_wp2_with (first | ((with_reducible go_at_call 28); go_must (refine (at_nil i _).mono ?_; rintro e w' ⟨rfl, rfl⟩)))
  go_ret
  exact ⟨rfl, rfl⟩
set_option maxHeartbeats 400000 in
theorem spoil_nil (i j m : Int) (w : World) : Calls Try.prog 16 #[.pointer none, .int .i64 i, .int .i64 j, .int .u8 m] w fun e w' => e = .returned (.int .i64 2) ∧ w = w' := by
  go_enter Try.func16, Try.ntmps16
  go_wp2_with (first | ((with_reducible go_at_call 28); go_must (refine (at_nil i _).mono ?_; rintro e w' ⟨rfl, rfl⟩)))
  go_ret
  exact ⟨rfl, rfl⟩
set_option maxHeartbeats 400000 in
theorem send_nil (a0 a1 : Int) (A2 : Option Addr) (n2 c2 : Nat) (w : World) :
    Calls Try.prog 10 #[.pointer none, .agg #[.int .i64 a0, .int .i64 a1, .slice A2 n2 c2]] w fun e w' => e = .returned (.int .i64 2) ∧ Below w.heap.size w w' := by
  go_enter Try.func10, Try.ntmps10
  go_wp2_with ((with_reducible refine gate_dst (N := 3) rfl ?_); refine box_event ?hg (N := 3) ?hd (cs := #[.int .i64 a0, .int .i64 a1, .slice A2 n2 c2]) (t := 29) ?hr ?_; (case hd => rfl); (case hg => rfl); (case hr => first | (go_simp; done) | (go_simp; rfl)); intro gb hg w1 hbox hb; clear hbox hg)
  go_ret
  exact ⟨rfl, hb⟩
set_option maxHeartbeats 400000 in
theorem look_nil (i : Int) (w : World) : Calls Try.prog 14 #[.pointer none, .int .i64 i] w fun e w' => e = .returned (.tuple #[.agg #[.int .i64 0, .int .i64 0, .slice none 0 0], .int .i64 2]) ∧ Below w.heap.size w w' := by
  go_enter Try.func14, Try.ntmps14
  go_wp2_with (first | ((with_reducible refine gate_dst (N := 4) rfl ?_); refine box_event ?hg (N := 4) ?hd (cs := #[.int .i64 0, .int .i64 0, .slice none 0 0]) (t := 29) ?hr ?_; (case hd => rfl); (case hg => rfl); (case hr => first | (go_simp; done) | (go_simp; rfl)); intro gb hg w1 hbox hb; have hX := Lib.hid hbox; have hY0 : w1.cell? ⟨gb, 0, none⟩ = some (.int .i64 0) := (blk_cell hbox 0).trans rfl; have hY1 : w1.cell? ⟨gb, 1, none⟩ = some (.int .i64 0) := (blk_cell hbox 1).trans rfl; have hY2 : w1.cell? ⟨gb, 2, none⟩ = some (.slice none 0 0) := (blk_cell hbox 2).trans rfl; have hZ0 := blk_frozen hbox 0; have hZ1 := blk_frozen hbox 1; have hZ2 := blk_frozen hbox 2; have hB1 := Lib.hid hb; have hg1 := Lib.hid hg; clear hbox hb hg) | ((with_reducible go_at_call 28); go_must (refine (at_nil i _).mono ?_; rintro e w' ⟨rfl, rfl⟩)))
  refine bodyPost_ret (results_ct rfl _ _ gb 29 #[.int .i64 0, .int .i64 0, .slice none 0 0] (0, 0) _ rfl (blk_put (blk_put (blk_put hX.out 0 _ rfl) 1 _ rfl) 2 _ rfl) Try.underlying29 rfl (by kernel_rfl)) rfl ?_
  have hg2 := hg1.out
  exact ⟨rfl, below_set (below_set (below_set hB1.out (by omega)) (by omega)) (by omega)⟩
set_option maxHeartbeats 400000 in
theorem take_nil (i : Int) (w : World) : Calls Try.prog 19 #[.pointer none, .int .i64 i] w fun e w' => e = .returned (.tuple #[.agg #[.int .i64 0, .int .i64 0, .slice none 0 0], .int .i64 2]) ∧ Below w.heap.size w w' := by
  go_enter Try.func19, Try.ntmps19
  go_wp2_with (first | ((with_reducible refine gate_dst (N := 4) rfl ?_); refine box_event ?hg (N := 4) ?hd (cs := #[.int .i64 0, .int .i64 0, .slice none 0 0]) (t := 29) ?hr ?_; (case hd => rfl); (case hg => rfl); (case hr => first | (go_simp; done) | (go_simp; rfl)); intro gb hg w1 hbox hb; have hX := Lib.hid hbox; have hY0 : w1.cell? ⟨gb, 0, none⟩ = some (.int .i64 0) := (blk_cell hbox 0).trans rfl; have hY1 : w1.cell? ⟨gb, 1, none⟩ = some (.int .i64 0) := (blk_cell hbox 1).trans rfl; have hY2 : w1.cell? ⟨gb, 2, none⟩ = some (.slice none 0 0) := (blk_cell hbox 2).trans rfl; have hZ0 := blk_frozen hbox 0; have hZ1 := blk_frozen hbox 1; have hZ2 := blk_frozen hbox 2; have hB1 := Lib.hid hb; have hg1 := Lib.hid hg; clear hbox hb hg) | ((with_reducible go_at_call 28); go_must (refine (at_nil i _).mono ?_; rintro e w' ⟨rfl, rfl⟩)))
  refine bodyPost_ret (results_ct rfl _ _ gb 29 #[.int .i64 0, .int .i64 0, .slice none 0 0] (0, 0) _ rfl (blk_put (blk_put (blk_put hX.out 0 _ rfl) 1 _ rfl) 2 _ rfl) Try.underlying29 rfl (by kernel_rfl)) rfl ?_
  have hg2 := hg1.out
  exact ⟨rfl, below_set (below_set (below_set hB1.out (by omega)) (by omega)) (by omega)⟩
set_option maxHeartbeats 4000000 in
set_option maxRecDepth 100000 in
theorem twice_ok (base r k : Nat) (ao : Option Addr) (cap : Nat) (ms : List S29) (p : S29) (w : World) (hN : NetIs base w r (.slice ao ms.length cap) ms) (hp : ms[k]? = some p) (hl : p.f2.length ≤ 65536) (hlen : ms.length < 512) :
    Calls Try.prog 12 #[.pointer (some ⟨r, 0, none⟩), .int .i64 k] w fun e w' => e = .returned (.int .i64 0) ∧ ∃ v', NetIs base w' r v' (ms ++ [p]) ∧ Below base w w' ∧ Kept w w' (fun k => k = r ∨ some k = (Value.slice ao ms.length cap).ownBlock) := by
  have hk : k < ms.length := (List.getElem?_eq_some_iff.1 hp).1
  obtain ⟨b, off, A2, c2, _, rfl, hE, hc2, hC2⟩ := hN.at_ hp
  have hC1 := hN.cell
  have HN := Lib.hid hN
  have HC2 := Lib.hid hC2
  clear hN hp hC2
  go_enter Try.func12, Try.ntmps12
  go_wp2_with (first | ((with_reducible go_at_call 28); go_must (refine (at_in r _ _ ms.length cap k hk _ hC1).mono ?_; rintro e w' ⟨rfl, rfl⟩)) | ((with_reducible go_at_call 10); go_must (refine (send_ok base r _ cap ms p.f0 p.f1 A2 c2 p.f2 _ HN.out hlen hl HC2.out hc2).mono ?_; rintro e w' ⟨rfl, h⟩; have hS := Lib.hid h; clear h)))
  go_ret
  exact ⟨rfl, hS.out⟩
set_option maxHeartbeats 4000000 in
set_option maxRecDepth 100000 in
theorem send_full (base r : Nat) (ao : Option Addr) (cap : Nat) (ms : List S29) (a0 a1 : Int) (A2 : Option Addr) (n2 c2 : Nat) (w : World) (hN : NetIs base w r (.slice ao ms.length cap) ms)
    (hlen : 512 ≤ ms.length) (hl : n2 ≤ 65536) : Calls Try.prog 10 #[.pointer (some ⟨r, 0, none⟩), .agg #[.int .i64 a0, .int .i64 a1, .slice A2 n2 c2]] w fun e w' => e = .returned (.int .i64 90) ∧ Below w.heap.size w w' := by
  have HN := Lib.hid hN
  clear hN
  go_enter Try.func10, Try.ntmps10
  go_wp2_with ((with_reducible refine gate_dst (N := 3) rfl ?_); refine box_event ?hg (N := 3) ?hd (cs := #[.int .i64 a0, .int .i64 a1, .slice A2 n2 c2]) (t := 29) ?hr ?_; (case hd => rfl); (case hg => rfl); (case hr => first | (go_simp; done) | (go_simp; rfl)); intro gb hg w1 hbox hb; have hx2 : w1.cell? ⟨gb, 2, none⟩ = some (.slice A2 n2 c2) := (blk_cell hbox 2).trans rfl; have hC1 := (HN.out.kept hb).cell; have hB1 := Lib.hid hb; clear hbox hb hg)
  go_ret
  exact ⟨rfl, hB1.out⟩
set_option maxHeartbeats 4000000 in
set_option maxRecDepth 100000 in
theorem send_long (r : Nat) (a0 a1 : Int) (A2 : Option Addr) (n2 c2 : Nat) (w : World)
    (hl : 65536 < n2) : Calls Try.prog 10 #[.pointer (some ⟨r, 0, none⟩), .agg #[.int .i64 a0, .int .i64 a1, .slice A2 n2 c2]] w fun e w' => e = .returned (.int .i64 42) ∧ Below w.heap.size w w' := by
  go_enter Try.func10, Try.ntmps10
  go_wp2_with ((with_reducible refine gate_dst (N := 3) rfl ?_); refine box_event ?hg (N := 3) ?hd (cs := #[.int .i64 a0, .int .i64 a1, .slice A2 n2 c2]) (t := 29) ?hr ?_; (case hd => rfl); (case hg => rfl); (case hr => first | (go_simp; done) | (go_simp; rfl)); intro gb hg w1 hbox hb; have hx2 : w1.cell? ⟨gb, 2, none⟩ = some (.slice A2 n2 c2) := (blk_cell hbox 2).trans rfl; have hB1 := Lib.hid hb; clear hbox hb hg)
  go_ret
  exact ⟨rfl, hB1.out⟩
set_option maxHeartbeats 4000000 in
set_option maxRecDepth 100000 in
theorem twice_full (base r k : Nat) (ao : Option Addr) (cap : Nat) (ms : List S29) (p : S29) (w : World) (hN : NetIs base w r (.slice ao ms.length cap) ms) (hp : ms[k]? = some p) (hl : p.f2.length ≤ 65536) (hlen : 512 ≤ ms.length) :
    Calls Try.prog 12 #[.pointer (some ⟨r, 0, none⟩), .int .i64 k] w fun e w' => e = .returned (.int .i64 90) ∧ Below w.heap.size w w' := by
  have hk : k < ms.length := (List.getElem?_eq_some_iff.1 hp).1
  obtain ⟨b, off, A2, c2, _, rfl, hE, hc2, hC2⟩ := hN.at_ hp
  have hC1 := hN.cell
  have HN := Lib.hid hN
  have HC2 := Lib.hid hC2
  clear hN hp hC2
  go_enter Try.func12, Try.ntmps12
  go_wp2_with (first | ((with_reducible go_at_call 28); go_must (refine (at_in r _ _ ms.length cap k hk _ hC1).mono ?_; rintro e w' ⟨rfl, rfl⟩)) | ((with_reducible go_at_call 10); go_must (refine (send_full base r _ cap ms p.f0 p.f1 A2 _ c2 _ HN.out hlen hl).mono ?_; rintro e w' ⟨rfl, h⟩; have hS := Lib.hid h; clear h)))
  go_ret
  exact ⟨rfl, hS.out⟩
end Go.Proofs.Ytglhojkchpbnkaa.Net
