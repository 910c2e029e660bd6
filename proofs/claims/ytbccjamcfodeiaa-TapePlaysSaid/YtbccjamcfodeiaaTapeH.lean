/- PROVED: Does, of a tape and the reference's. No condition beyond what each line says. -/
import Derived.Test.YtbccjamcfodeiaaTapeG
import Derived.Test.YtbccjamcfodeiaaLRead
import Derived.Test.YtbccjamcfodeiaaWApart
import Derived.Test.YtbccjamcfodeiaaWKept
import Derived.WalkKit
import Derived.WalkSpells
import Derived.WalkLawsBesides
import Derived.WalkMore
import Derived.Outline
import Derived.Lib.Hide
import Derived.BigQuiet
import Derived.Deep.QuietTactic
import Derived.Deep.RegionHeld3
import Derived.Deep.RegionLaw
import Derived.Deep.LoopGhost
import Derived.Deep.DeepCutAuto
namespace Go.Proofs.Ytbccjamcfodeiaa.TapeH
open Go.RowKit Go.Proofs.Ytbccjamcfodeiaa.PTapePlays Go.Proofs.YtbccjamcfodeiaaW.PrintWords Go.Proofs.YtbccjamcfodeiaaW.PrintLast Go.Proofs.YtbccjamcfodeiaaW.PrintMore
open Go.Proofs.Ytbccjamcfodeiaa.Tape Go.Proofs.Ytbccjamcfodeiaa.Tape2 Go.Proofs.Ytbccjamcfodeiaa.Tape3 Go.Proofs.Ytbccjamcfodeiaa.Tape4 Go.Proofs.Ytbccjamcfodeiaa.Tape5 Go.Proofs.Ytbccjamcfodeiaa.Tape6 Go.Proofs.Ytbccjamcfodeiaa.Tape7 Go.Proofs.Ytbccjamcfodeiaa.Tape8 Go.Proofs.Ytbccjamcfodeiaa.Tape9
open Go.Proofs.Ytbccjamcfodeiaa.TapeW Go.Proofs.Ytbccjamcfodeiaa.TapeF Go.Proofs.Ytbccjamcfodeiaa.TapeP Go.Proofs.Ytbccjamcfodeiaa.TapeP2 Go.Proofs.Ytbccjamcfodeiaa.RTape
open Go.Proofs.Ytbccjamcfodeiaa.RTape2 Go.Proofs.Ytbccjamcfodeiaa.RTape3 Go.Proofs.Ytbccjamcfodeiaa.RTape4 Go.Proofs.Ytbccjamcfodeiaa.RTape5
open Go.Proofs.Ytbccjamcfodeiaa.TapeG
set_option linter.unusedSimpArgs false
set_option linter.unusedVariables false
theorem held5 {base : Nat} {l : List Thing} {w : World} {g : Nat} {a b c d e : Value} (h : Apt base w (l ++ [blk g #[a, b, c, d, e] 45])) : w.cell? ⟨g, 0, none⟩ = some a ∧ w.cell? ⟨g, 1, none⟩ = some b ∧ w.cell? ⟨g, 2, none⟩ = some c ∧ w.cell? ⟨g, 3, none⟩ = some d ∧ w.cell? ⟨g, 4, none⟩ = some e :=
  ⟨(blk_cell (blk_at h last_at) 0).trans rfl, (blk_cell (blk_at h last_at) 1).trans rfl, (blk_cell (blk_at h last_at) 2).trans rfl, (blk_cell (blk_at h last_at) 3).trans rfl, (blk_cell (blk_at h last_at) 4).trans rfl⟩
theorem held5' {base : Nat} {l : List Thing} {w : World} {g : Nat} {t : Thing} {a b c d e : Value} (h : Apt base w ((l ++ [blk g #[a, b, c, d, e] 45]) ++ [t])) : w.cell? ⟨g, 0, none⟩ = some a ∧ w.cell? ⟨g, 1, none⟩ = some b ∧ w.cell? ⟨g, 2, none⟩ = some c ∧ w.cell? ⟨g, 3, none⟩ = some d ∧ w.cell? ⟨g, 4, none⟩ = some e := held5 (Apt.init h)
set_option maxHeartbeats 4000000 in
set_option maxRecDepth 100000 in
theorem does_y (base : Nat) (r r2 n : Nat) (s : TS) (rest : List Thing) (x : S45) (A3 A4 : Option Addr) (c3 c4 : Nat) (w : World) (h : Apt base w (tape r s :: rtape r2 s :: rest)) (hg : Fine n s) (hn : n ≤ 9000000) (hbw : base ≤ w.heap.size) (hxo : okC x) (h500 : x.f3.length ≤ 500) (hC3 : Kd.C (Kd.int .u8) w A3 x.f3.length x.f3) (hc3 : x.f3.length ≤ c3) (hA3 : ∀ a, A3 = some a → 0 < x.f3.length → a.block < base) :
    Calls Try.prog 25 #[.pointer (some ⟨r, 0, none⟩), .pointer (some ⟨r2, 0, none⟩), .agg #[.int .i64 x.f0, .int .i64 x.f1, .int .i64 x.f2, .slice A3 x.f3.length c3, .slice A4 x.f4.length c4]] w fun e w' => e = .returned (.bool true) ∧ Apt base w' (tape r (doS s x) :: rtape r2 (doS s x) :: rest) ∧ Below base w w' := by
  have HB := Lib.hid (Below.refl base w)
  have HY0 := Lib.hid h
  have HF := Lib.hid hg
  have HBY := Lib.hid (okC_by hxo)
  have HC3 := Lib.hid hC3
  have HA3 := Lib.hid hA3
  have HFF := Lib.hid (fuse_rng x.f2 (okC_n hxo).2)
  have HBW := Lib.hid hbw
  clear h hg hxo hC3 hA3
  by_cases k0 : x.f0 = 0
  · obtain ⟨⟨ka, sa⟩, hx⟩ : ∃ y, appS s x.f1 x.f3 = y := ⟨_, rfl⟩
    have hs : doS s x = sa := by unfold doS; rw [if_pos k0, hx]
    rw [hs]
    have HX := Lib.hid hx
    clear hs hx
    go_enter Try.func25, Try.ntmps25
    go_upto_region 3 with (first | ((with_reducible refine gate_dst (N := 5) rfl ?_); (have q_ := HY0; clear q_); refine box_event ?hg (N := 5) ?hd (cs := #[.int .i64 x.f0, .int .i64 x.f1, .int .i64 x.f2, .slice A3 x.f3.length c3, .slice A4 x.f4.length c4]) (t := 45) ?hr ?_; (case hd => rfl); (case hg => rfl); (case hr => first | (go_simp; done) | (go_simp; rfl)); intro g hg w1 hbox hb; have hy : Apt base w1 ((tape r s :: rtape r2 s :: rest) ++ [blk g #[.int .i64 x.f0, .int .i64 x.f1, .int .i64 x.f2, .slice A3 x.f3.length c3, .slice A4 x.f4.length c4] 45]) := Apt.add HY0.out hb ⟨Nat.le_of_eq hg.symm, hbox⟩; obtain ⟨v0, v1, v2, v3, v4⟩ := held5 hy; have HY1 := Lib.hid hy; clear HY0 hy hbox hg; have hb_ := HB.out.trans (Below.mono hb (Nat.le_trans HBW.out (Nat.le_trans HB.out.size (Nat.le_refl _)))); clear HB; have HB := Lib.hid hb_; clear hb_ hb))
    have hy_ := Apt.below HY1.out (below_drew1 (Below.refl w1.heap.size w1))
    have hb_ := below_drew HB.out
    have HSC := Lib.hid (show (World.drew w1).cell? ⟨g, 1, none⟩ = some (.int .i64 x.f1) ∧ (World.drew w1).cell? ⟨g, 3, none⟩ = some (.slice A3 x.f3.length c3) from ⟨(held5 hy_).2.1, (held5 hy_).2.2.2.1⟩)
    clear HY1 HB v0 v1 v2 v3 v4
    have HY1 := Lib.hid hy_
    have HB := Lib.hid hb_
    clear hy_ hb_
    go_region_held3 (fun w2 => w2.cell? ⟨g, 1, none⟩ = some (.int .i64 x.f1) ∧ w2.cell? ⟨g, 3, none⟩ = some (.slice A3 x.f3.length c3)) (first | with_reducible exact HSC.out) (first | ((with_reducible go_at_call 18); (have q_ := HY1; clear q_); have q9 := own_z base ((tape r s :: rtape r2 s :: rest) ++ [blk g #[.int .i64 x.f0, .int .i64 x.f1, .int .i64 x.f2, .slice A3 x.f3.length c3, .slice A4 x.f4.length c4] 45]) A3 c3 x.f3 _ HY1.out (C_low HC3.out HA3.out HB.out) hc3 (by omega) (Nat.le_trans HBW.out HB.out.size); (with_reducible refine q9.mono ?_); clear q9; rintro e w1 ⟨Ao, co, rfl, hy, hb⟩; have hy : Apt base w1 (((tape r s :: rtape r2 s :: rest) ++ [blk g #[.int .i64 x.f0, .int .i64 x.f1, .int .i64 x.f2, .slice A3 x.f3.length c3, .slice A4 x.f4.length c4] 45]) ++ [row (.slice Ao x.f3.length co) x.f3]) := hy; have hs_ := (show _ ∧ _ from ⟨(held5' hy).2.1, (held5' hy).2.2.2.1⟩); clear HSC; have HSC := Lib.hid hs_; clear hs_; have HY2 := Lib.hid hy; clear HY1 hy; have hb_ := HB.out.trans (Below.mono hb (Nat.le_trans HBW.out (Nat.le_trans HB.out.size (Nat.le_refl _)))); clear HB; have HB := Lib.hid hb_; clear hb_ hb) | ((with_reducible go_at_call 13); (have q_ := HY2; clear q_); have q9 := (append_y base (((tape r s :: rtape r2 s :: rest) ++ [blk g #[.int .i64 x.f0, .int .i64 x.f1, .int .i64 x.f2, .slice A3 x.f3.length c3, .slice A4 x.f4.length c4] 45]) ++ [row (.slice Ao x.f3.length co) x.f3]) 0 (((tape r s :: rtape r2 s :: rest) ++ [blk g #[.int .i64 x.f0, .int .i64 x.f1, .int .i64 x.f2, .slice A3 x.f3.length c3, .slice A4 x.f4.length c4] 45]).length) r n s x.f1 Ao co x.f3 _ HY2.out rfl last_at (by simp) HF.out (by omega) (by omega) HBY.out (Nat.le_trans HBW.out HB.out.size)); (with_reducible refine q9.mono ?_); clear q9; rw [HX.out]; rintro e w1 ⟨rfl, hy, hb⟩; have hy : Apt base w1 (((tape r sa :: rtape r2 s :: rest) ++ [blk g #[.int .i64 x.f0, .int .i64 x.f1, .int .i64 x.f2, .slice A3 x.f3.length c3, .slice A4 x.f4.length c4] 45]) ++ [row (.slice Ao x.f3.length co) x.f3]) := hy; have hs_ := (show _ ∧ _ from ⟨(held5' hy).2.1, (held5' hy).2.2.2.1⟩); clear HSC; have HSC := Lib.hid hs_; clear hs_; have HY4 := Lib.hid hy; clear HY2 hy; have hb_ := HB.out.trans hb; clear HB; have HB := Lib.hid hb_; clear hb_ hb) | ((with_reducible go_at_call 32); (have q_ := HY4; clear q_); have q9 := rappend_z base (((tape r sa :: rtape r2 s :: rest) ++ [blk g #[.int .i64 x.f0, .int .i64 x.f1, .int .i64 x.f2, .slice A3 x.f3.length c3, .slice A4 x.f4.length c4] 45]) ++ [row (.slice Ao x.f3.length co) x.f3]) (((tape r sa :: rtape r2 sa :: rest) ++ [blk g #[.int .i64 x.f0, .int .i64 x.f1, .int .i64 x.f2, .slice A3 x.f3.length c3, .slice A4 x.f4.length c4] 45]) ++ [row (.slice Ao x.f3.length co) x.f3]) 1 ((((tape r sa :: rtape r2 sa :: rest) ++ [blk g #[.int .i64 x.f0, .int .i64 x.f1, .int .i64 x.f2, .slice A3 x.f3.length c3, .slice A4 x.f4.length c4] 45]) ++ [row (.slice Ao x.f3.length co) x.f3]).length) r2 n x.f3.length s sa x.f1 ka A3 c3 x.f3 _ HY4.out rfl rfl HF.out (by omega) (by omega) (C_low HC3.out HA3.out HB.out) hc3 HA3.out (Nat.le_trans HBW.out HB.out.size) HX.out (by rw [List.take_of_length_le (by simp)]; rfl); (with_reducible refine q9.mono ?_); clear q9; rintro e w1 ⟨rfl, hy, hb⟩; have hy : Apt base w1 (((tape r sa :: rtape r2 sa :: rest) ++ [blk g #[.int .i64 x.f0, .int .i64 x.f1, .int .i64 x.f2, .slice A3 x.f3.length c3, .slice A4 x.f4.length c4] 45]) ++ [row (.slice Ao x.f3.length co) x.f3]) := hy; have hs_ := (show _ ∧ _ from ⟨(held5' hy).2.1, (held5' hy).2.2.2.1⟩); clear HSC; have HSC := Lib.hid hs_; clear hs_; have HY5 := Lib.hid hy; clear HY4 hy; have hb_ := HB.out.trans hb; clear HB; have HB := Lib.hid hb_; clear hb_ hb))
    all_goals
      go_wp2
      go_ret
      exact ⟨by simp, Apt.init (Apt.init HY5.out), HB.out⟩
  by_cases k1 : x.f0 = 1
  · obtain ⟨⟨ka, sa⟩, hx⟩ : ∃ y, cutS s x.f1 x.f2 = y := ⟨_, rfl⟩
    have hs : doS s x = sa := by unfold doS; rw [if_neg k0, if_pos k1, hx]
    rw [hs]
    have HX := Lib.hid hx
    have k0' : (x.f0 == 0) = false := by simpa using k0
    clear hs hx k0
    go_enter Try.func25, Try.ntmps25
    go_upto_region 5 with (first | ((with_reducible refine gate_dst (N := 5) rfl ?_); (have q_ := HY0; clear q_); refine box_event ?hg (N := 5) ?hd (cs := #[.int .i64 x.f0, .int .i64 x.f1, .int .i64 x.f2, .slice A3 x.f3.length c3, .slice A4 x.f4.length c4]) (t := 45) ?hr ?_; (case hd => rfl); (case hg => rfl); (case hr => first | (go_simp; done) | (go_simp; rfl)); intro g hg w1 hbox hb; have hy : Apt base w1 ((tape r s :: rtape r2 s :: rest) ++ [blk g #[.int .i64 x.f0, .int .i64 x.f1, .int .i64 x.f2, .slice A3 x.f3.length c3, .slice A4 x.f4.length c4] 45]) := Apt.add HY0.out hb ⟨Nat.le_of_eq hg.symm, hbox⟩; obtain ⟨v0, v1, v2, v3, v4⟩ := held5 hy; have HY1 := Lib.hid hy; clear HY0 hy hbox hg; have hb_ := HB.out.trans (Below.mono hb (Nat.le_trans HBW.out (Nat.le_trans HB.out.size (Nat.le_refl _)))); clear HB; have HB := Lib.hid hb_; clear hb_ hb))
    have hy_ := Apt.below HY1.out (below_drew1 (Below.refl w1.heap.size w1))
    have hb_ := below_drew HB.out
    have HSC := Lib.hid (show (World.drew w1).cell? ⟨g, 1, none⟩ = some (.int .i64 x.f1) ∧ (World.drew w1).cell? ⟨g, 2, none⟩ = some (.int .i64 x.f2) from ⟨(held5 hy_).2.1, (held5 hy_).2.2.1⟩)
    clear HY1 HB v0 v1 v2 v3 v4
    have HY1 := Lib.hid hy_
    have HB := Lib.hid hb_
    clear hy_ hb_
    go_region_held3 (fun w2 => w2.cell? ⟨g, 1, none⟩ = some (.int .i64 x.f1) ∧ w2.cell? ⟨g, 2, none⟩ = some (.int .i64 x.f2)) (first | with_reducible exact HSC.out) (first | ((with_reducible go_at_call 22); (have q_ := HY1; clear q_); have q9 := cut_z base ((tape r s :: rtape r2 s :: rest) ++ [blk g #[.int .i64 x.f0, .int .i64 x.f1, .int .i64 x.f2, .slice A3 x.f3.length c3, .slice A4 x.f4.length c4] 45]) ((tape r sa :: rtape r2 s :: rest) ++ [blk g #[.int .i64 x.f0, .int .i64 x.f1, .int .i64 x.f2, .slice A3 x.f3.length c3, .slice A4 x.f4.length c4] 45]) 0 (((tape r sa :: rtape r2 s :: rest) ++ [blk g #[.int .i64 x.f0, .int .i64 x.f1, .int .i64 x.f2, .slice A3 x.f3.length c3, .slice A4 x.f4.length c4] 45]).length) r n s sa x.f1 x.f2 ka _ HY1.out rfl HF.out (by omega) (Nat.le_trans HBW.out HB.out.size) HX.out (by rw [List.take_of_length_le (by simp)]; rfl); (with_reducible refine q9.mono ?_); clear q9; rintro e w1 ⟨rfl, hy, hb⟩; have hy : Apt base w1 ((tape r sa :: rtape r2 s :: rest) ++ [blk g #[.int .i64 x.f0, .int .i64 x.f1, .int .i64 x.f2, .slice A3 x.f3.length c3, .slice A4 x.f4.length c4] 45]) := hy; have hs_ := (show _ ∧ _ from ⟨(held5 hy).2.1, (held5 hy).2.2.1⟩); clear HSC; have HSC := Lib.hid hs_; clear hs_; have HY2 := Lib.hid hy; clear HY1 hy; have hb_ := HB.out.trans hb; clear HB; have HB := Lib.hid hb_; clear hb_ hb) | ((with_reducible go_at_call 33); (have q_ := HY2; clear q_); have q9 := rcut_z base ((tape r sa :: rtape r2 s :: rest) ++ [blk g #[.int .i64 x.f0, .int .i64 x.f1, .int .i64 x.f2, .slice A3 x.f3.length c3, .slice A4 x.f4.length c4] 45]) ((tape r sa :: rtape r2 sa :: rest) ++ [blk g #[.int .i64 x.f0, .int .i64 x.f1, .int .i64 x.f2, .slice A3 x.f3.length c3, .slice A4 x.f4.length c4] 45]) 1 (((tape r sa :: rtape r2 sa :: rest) ++ [blk g #[.int .i64 x.f0, .int .i64 x.f1, .int .i64 x.f2, .slice A3 x.f3.length c3, .slice A4 x.f4.length c4] 45]).length) r2 n s sa x.f1 x.f2 ka _ HY2.out rfl HF.out (by omega) (Nat.le_trans HBW.out HB.out.size) HX.out (by rw [List.take_of_length_le (by simp)]; rfl); (with_reducible refine q9.mono ?_); clear q9; rintro e w1 ⟨rfl, hy, hb⟩; have hy : Apt base w1 ((tape r sa :: rtape r2 sa :: rest) ++ [blk g #[.int .i64 x.f0, .int .i64 x.f1, .int .i64 x.f2, .slice A3 x.f3.length c3, .slice A4 x.f4.length c4] 45]) := hy; have hs_ := (show _ ∧ _ from ⟨(held5 hy).2.1, (held5 hy).2.2.1⟩); clear HSC; have HSC := Lib.hid hs_; clear hs_; have HY3 := Lib.hid hy; clear HY2 hy; have hb_ := HB.out.trans hb; clear HB; have HB := Lib.hid hb_; clear hb_ hb))
    all_goals
      go_wp2
      go_ret
      exact ⟨by simp, Apt.init HY3.out, HB.out⟩
  by_cases k2 : x.f0 = 2
  · obtain ⟨⟨ka, sa⟩, hx⟩ : ∃ y, syncS s x.f1 = y := ⟨_, rfl⟩
    have hs : doS s x = sa := by unfold doS; rw [if_neg k0, if_neg k1, if_pos k2, hx]
    rw [hs]
    have HX := Lib.hid hx
    have k0' : (x.f0 == 0) = false := by simpa using k0
    have k1' : (x.f0 == 1) = false := by simpa using k1
    clear hs hx k0 k1
    go_enter Try.func25, Try.ntmps25
    go_upto_region 7 with (first | ((with_reducible refine gate_dst (N := 5) rfl ?_); (have q_ := HY0; clear q_); refine box_event ?hg (N := 5) ?hd (cs := #[.int .i64 x.f0, .int .i64 x.f1, .int .i64 x.f2, .slice A3 x.f3.length c3, .slice A4 x.f4.length c4]) (t := 45) ?hr ?_; (case hd => rfl); (case hg => rfl); (case hr => first | (go_simp; done) | (go_simp; rfl)); intro g hg w1 hbox hb; have hy : Apt base w1 ((tape r s :: rtape r2 s :: rest) ++ [blk g #[.int .i64 x.f0, .int .i64 x.f1, .int .i64 x.f2, .slice A3 x.f3.length c3, .slice A4 x.f4.length c4] 45]) := Apt.add HY0.out hb ⟨Nat.le_of_eq hg.symm, hbox⟩; obtain ⟨v0, v1, v2, v3, v4⟩ := held5 hy; have HY1 := Lib.hid hy; clear HY0 hy hbox hg; have hb_ := HB.out.trans (Below.mono hb (Nat.le_trans HBW.out (Nat.le_trans HB.out.size (Nat.le_refl _)))); clear HB; have HB := Lib.hid hb_; clear hb_ hb))
    have hy_ := Apt.below HY1.out (below_drew1 (Below.refl w1.heap.size w1))
    have hb_ := below_drew HB.out
    have HSC := Lib.hid (show (World.drew w1).cell? ⟨g, 1, none⟩ = some (.int .i64 x.f1) ∧ (World.drew w1).cell? ⟨g, 2, none⟩ = some (.int .i64 x.f2) from ⟨(held5 hy_).2.1, (held5 hy_).2.2.1⟩)
    clear HY1 HB v0 v1 v2 v3 v4
    have HY1 := Lib.hid hy_
    have HB := Lib.hid hb_
    clear hy_ hb_
    go_region_held3 (fun w2 => w2.cell? ⟨g, 1, none⟩ = some (.int .i64 x.f1) ∧ w2.cell? ⟨g, 2, none⟩ = some (.int .i64 x.f2)) (first | with_reducible exact HSC.out) (first | ((with_reducible go_at_call 17); (have q_ := HY1; clear q_); have q9 := sync_z base ((tape r s :: rtape r2 s :: rest) ++ [blk g #[.int .i64 x.f0, .int .i64 x.f1, .int .i64 x.f2, .slice A3 x.f3.length c3, .slice A4 x.f4.length c4] 45]) ((tape r sa :: rtape r2 s :: rest) ++ [blk g #[.int .i64 x.f0, .int .i64 x.f1, .int .i64 x.f2, .slice A3 x.f3.length c3, .slice A4 x.f4.length c4] 45]) 0 (((tape r sa :: rtape r2 s :: rest) ++ [blk g #[.int .i64 x.f0, .int .i64 x.f1, .int .i64 x.f2, .slice A3 x.f3.length c3, .slice A4 x.f4.length c4] 45]).length) r n s sa x.f1 ka _ HY1.out rfl HF.out (by omega) (Nat.le_trans HBW.out HB.out.size) HX.out (by rw [List.take_of_length_le (by simp)]; rfl); (with_reducible refine q9.mono ?_); clear q9; rintro e w1 ⟨rfl, hy, hb⟩; have hy : Apt base w1 ((tape r sa :: rtape r2 s :: rest) ++ [blk g #[.int .i64 x.f0, .int .i64 x.f1, .int .i64 x.f2, .slice A3 x.f3.length c3, .slice A4 x.f4.length c4] 45]) := hy; have hs_ := (show _ ∧ _ from ⟨(held5 hy).2.1, (held5 hy).2.2.1⟩); clear HSC; have HSC := Lib.hid hs_; clear hs_; have HY2 := Lib.hid hy; clear HY1 hy; have hb_ := HB.out.trans hb; clear HB; have HB := Lib.hid hb_; clear hb_ hb) | ((with_reducible go_at_call 34); (have q_ := HY2; clear q_); have q9 := rsync_z base ((tape r sa :: rtape r2 s :: rest) ++ [blk g #[.int .i64 x.f0, .int .i64 x.f1, .int .i64 x.f2, .slice A3 x.f3.length c3, .slice A4 x.f4.length c4] 45]) ((tape r sa :: rtape r2 sa :: rest) ++ [blk g #[.int .i64 x.f0, .int .i64 x.f1, .int .i64 x.f2, .slice A3 x.f3.length c3, .slice A4 x.f4.length c4] 45]) 1 (((tape r sa :: rtape r2 sa :: rest) ++ [blk g #[.int .i64 x.f0, .int .i64 x.f1, .int .i64 x.f2, .slice A3 x.f3.length c3, .slice A4 x.f4.length c4] 45]).length) r2 n s sa x.f1 ka _ HY2.out rfl HF.out (by omega) (Nat.le_trans HBW.out HB.out.size) HX.out (by rw [List.take_of_length_le (by simp)]; rfl); (with_reducible refine q9.mono ?_); clear q9; rintro e w1 ⟨rfl, hy, hb⟩; have hy : Apt base w1 ((tape r sa :: rtape r2 sa :: rest) ++ [blk g #[.int .i64 x.f0, .int .i64 x.f1, .int .i64 x.f2, .slice A3 x.f3.length c3, .slice A4 x.f4.length c4] 45]) := hy; have hs_ := (show _ ∧ _ from ⟨(held5 hy).2.1, (held5 hy).2.2.1⟩); clear HSC; have HSC := Lib.hid hs_; clear hs_; have HY3 := Lib.hid hy; clear HY2 hy; have hb_ := HB.out.trans hb; clear HB; have HB := Lib.hid hb_; clear hb_ hb))
    all_goals
      go_wp2
      go_ret
      exact ⟨by simp, Apt.init HY3.out, HB.out⟩
  by_cases k4 : x.f0 = 4
  · obtain ⟨sa, hx⟩ : ∃ y, y = { s with f := fuseOf x.f2 } := ⟨_, rfl⟩
    have hs : doS s x = sa := by unfold doS; rw [if_neg k0, if_neg k1, if_neg k2, if_pos k4, hx]
    rw [hs]
    have HX := Lib.hid hx
    have HFS : Hid (Fine n sa) := Lib.hid (by rw [hx]; exact setf_good HF.out _ _ HFF.out.1 HFF.out.2)
    have k0' : (x.f0 == 0) = false := by simpa using k0
    have k1' : (x.f0 == 1) = false := by simpa using k1
    have k2' : (x.f0 == 2) = false := by simpa using k2
    clear hs hx k0 k1 k2
    go_enter Try.func25, Try.ntmps25
    go_wp2_with (first | ((with_reducible refine gate_dst (N := 5) rfl ?_); (have q_ := HY0; clear q_); refine box_event ?hg (N := 5) ?hd (cs := #[.int .i64 x.f0, .int .i64 x.f1, .int .i64 x.f2, .slice A3 x.f3.length c3, .slice A4 x.f4.length c4]) (t := 45) ?hr ?_; (case hd => rfl); (case hg => rfl); (case hr => first | (go_simp; done) | (go_simp; rfl)); intro g hg w1 hbox hb; have hy : Apt base w1 ((tape r s :: rtape r2 s :: rest) ++ [blk g #[.int .i64 x.f0, .int .i64 x.f1, .int .i64 x.f2, .slice A3 x.f3.length c3, .slice A4 x.f4.length c4] 45]) := Apt.add HY0.out hb ⟨Nat.le_of_eq hg.symm, hbox⟩; obtain ⟨v0, v1, v2, v3, v4⟩ := held5 hy; have HY1 := Lib.hid hy; clear HY0 hy hbox hg; have hb_ := HB.out.trans (Below.mono hb (Nat.le_trans HBW.out (Nat.le_trans HB.out.size (Nat.le_refl _)))); clear HB; have HB := Lib.hid hb_; clear hb_ hb) | ((with_reducible go_at_call 28); (have q_ := HY1; clear q_); go_must (refine (fuse_y base ((tape r s :: rtape r2 s :: rest) ++ [blk g #[.int .i64 x.f0, .int .i64 x.f1, .int .i64 x.f2, .slice A3 x.f3.length c3, .slice A4 x.f4.length c4] 45]) 0 r s x.f2 _ HY1.out rfl (Nat.le_trans HBW.out HB.out.size)).mono ?_; rw [← HX.out]; rintro e w1 ⟨rfl, hy, hb⟩; have hy : Apt base w1 ((tape r sa :: rtape r2 s :: rest) ++ [blk g #[.int .i64 x.f0, .int .i64 x.f1, .int .i64 x.f2, .slice A3 x.f3.length c3, .slice A4 x.f4.length c4] 45]) := hy; clear v0 v1 v2 v3 v4; obtain ⟨v0, v1, v2, v3, v4⟩ := held5 hy; have HY2 := Lib.hid hy; clear HY1 hy; have hb_ := HB.out.trans hb; clear HB; have HB := Lib.hid hb_; clear hb_ hb)) | ((with_reducible go_at_call 35); (have q_ := HY2; clear q_); go_must (refine (rfuse_y base ((tape r sa :: rtape r2 s :: rest) ++ [blk g #[.int .i64 x.f0, .int .i64 x.f1, .int .i64 x.f2, .slice A3 x.f3.length c3, .slice A4 x.f4.length c4] 45]) 1 r2 s x.f2 _ HY2.out rfl (Nat.le_trans HBW.out HB.out.size)).mono ?_; rw [← HX.out]; rintro e w1 ⟨rfl, hy, hb⟩; have hy : Apt base w1 ((tape r sa :: rtape r2 sa :: rest) ++ [blk g #[.int .i64 x.f0, .int .i64 x.f1, .int .i64 x.f2, .slice A3 x.f3.length c3, .slice A4 x.f4.length c4] 45]) := hy; clear v0 v1 v2 v3 v4; obtain ⟨v0, v1, v2, v3, v4⟩ := held5 hy; have HY4 := Lib.hid hy; clear HY2 hy; have hb_ := HB.out.trans hb; clear HB; have HB := Lib.hid hb_; clear hb_ hb)) | ((with_reducible go_at_call 27); (have q_ := HY4; clear q_); go_must (refine (same_t base r r2 n sa (rest ++ [blk g #[.int .i64 x.f0, .int .i64 x.f1, .int .i64 x.f2, .slice A3 x.f3.length c3, .slice A4 x.f4.length c4] 45]) x.f1 _ HY4.out HFS.out (by omega) (Nat.le_trans HBW.out HB.out.size)).mono ?_; rintro e w1 ⟨rfl, hy, hb⟩; have hy : Apt base w1 ((tape r sa :: rtape r2 sa :: rest) ++ [blk g #[.int .i64 x.f0, .int .i64 x.f1, .int .i64 x.f2, .slice A3 x.f3.length c3, .slice A4 x.f4.length c4] 45]) := hy; clear v0 v1 v2 v3 v4; obtain ⟨v0, v1, v2, v3, v4⟩ := held5 hy; have HY3 := Lib.hid hy; clear HY4 hy; have hb_ := HB.out.trans (Below.mono hb (Nat.le_trans HBW.out (Nat.le_trans HB.out.size (Nat.le_refl _)))); clear HB; have HB := Lib.hid hb_; clear hb_ hb)))
    go_ret
    exact ⟨rfl, Apt.init HY3.out, HB.out⟩
  · have hs : doS s x = s := by unfold doS; rw [if_neg k0, if_neg k1, if_neg k2, if_neg k4]
    rw [hs]
    have HFS := HF
    have k0' : (x.f0 == 0) = false := by simpa using k0
    have k1' : (x.f0 == 1) = false := by simpa using k1
    have k2' : (x.f0 == 2) = false := by simpa using k2
    have k4' : (x.f0 == 4) = false := by simpa using k4
    clear hs k0 k1 k2 k4
    go_enter Try.func25, Try.ntmps25
    go_wp2_with (first | ((with_reducible refine gate_dst (N := 5) rfl ?_); (have q_ := HY0; clear q_); refine box_event ?hg (N := 5) ?hd (cs := #[.int .i64 x.f0, .int .i64 x.f1, .int .i64 x.f2, .slice A3 x.f3.length c3, .slice A4 x.f4.length c4]) (t := 45) ?hr ?_; (case hd => rfl); (case hg => rfl); (case hr => first | (go_simp; done) | (go_simp; rfl)); intro g hg w1 hbox hb; have hy : Apt base w1 ((tape r s :: rtape r2 s :: rest) ++ [blk g #[.int .i64 x.f0, .int .i64 x.f1, .int .i64 x.f2, .slice A3 x.f3.length c3, .slice A4 x.f4.length c4] 45]) := Apt.add HY0.out hb ⟨Nat.le_of_eq hg.symm, hbox⟩; obtain ⟨v0, v1, v2, v3, v4⟩ := held5 hy; have HY1 := Lib.hid hy; clear HY0 hy hbox hg; have hb_ := HB.out.trans (Below.mono hb (Nat.le_trans HBW.out (Nat.le_trans HB.out.size (Nat.le_refl _)))); clear HB; have HB := Lib.hid hb_; clear hb_ hb) | ((with_reducible go_at_call 27); (have q_ := HY1; clear q_); go_must (refine (same_t base r r2 n s (rest ++ [blk g #[.int .i64 x.f0, .int .i64 x.f1, .int .i64 x.f2, .slice A3 x.f3.length c3, .slice A4 x.f4.length c4] 45]) x.f1 _ HY1.out HFS.out (by omega) (Nat.le_trans HBW.out HB.out.size)).mono ?_; rintro e w1 ⟨rfl, hy, hb⟩; have hy : Apt base w1 ((tape r s :: rtape r2 s :: rest) ++ [blk g #[.int .i64 x.f0, .int .i64 x.f1, .int .i64 x.f2, .slice A3 x.f3.length c3, .slice A4 x.f4.length c4] 45]) := hy; clear v0 v1 v2 v3 v4 HY1; obtain ⟨v0, v1, v2, v3, v4⟩ := held5 hy; have HY1 := Lib.hid hy; clear hy; have hb_ := HB.out.trans (Below.mono hb (Nat.le_trans HBW.out (Nat.le_trans HB.out.size (Nat.le_refl _)))); clear HB; have HB := Lib.hid hb_; clear hb_ hb)))
    go_ret
    exact ⟨rfl, Apt.init HY1.out, HB.out⟩
end Go.Proofs.Ytbccjamcfodeiaa.TapeH
