-- PRINTED BY print.sh 35421559b90ae4d0a3588c463048766b98c2df88dd9212a6774a882060cdf62d: not written by this session
import Derived.Test.YtdeejdjekjdgpaaPBallotHearsx0
import Derived.Test.YtdeejdjekjdgpaaPBallotHearsx1
import Derived.Test.YtdeejdjekjdgpaaPBallotHearsx3
namespace Go.Proofs.Ytdeejdjekjdgpaa.PBallotHears
open Go.RowKit Go.Proofs.YtdeejdjekjdgpaaW.PrintWords Go.Proofs.YtdeejdjekjdgpaaW.PrintLast Go.Proofs.YtdeejdjekjdgpaaW.PrintMore
attribute [local go_sem] max2_int min2_int max_two min_two max_three min_three max_four min_four   -- for this text's walks alone
set_option linter.unusedVariables false
set_option linter.unusedSimpArgs false

attribute [local go_sem high] eqA25
/-! ### ballot_Hear: function 11 -/
def ballot_Hear.j0 : Nat → Int → Int → Bool → Int → Int → Int → Int → Int → Int → Int → Int → Bool → Int → Int → Option (Int × Int × Int × Int × Int × Bool × Int × Int)
  | 0, _, _, _, _, _, _, _, _, _, _, _, _, _, _ => none
  | k + 1, x1, x2, x35, x103000, x103001, x103002, x103003, x104000, x104001, x104002, x107000, x107001, x107002, x107003 => if x35 = true then (some (x103000, x103001, x103002, x103003, x107000, x107001, x107002, x107003)) else (if (x104001 == x103000 && (x104000 == x103001)) = true then (some (x104001, x104000, wrap64 (x1 + x2), mx x103003 x104002, 0, true, x104001, x104002)) else (if x1 < x103002 then (some (x103000, x103001, x103002, x103003, x107000, x107001, x107002, x107003)) else (if x104001 ≤ x103000 then (some (x103000, x103001, x103002, x103003, x107000, x107001, x107002, x107003)) else (some (x104001, x104000, wrap64 (x1 + x2), x104002, 0, true, x104001, x104002)))))
def ballot_Hear.f (k : Nat) (a0_0 : Int) (a0_1 : Int) (a0_2 : Int) (a0_3 : Int) (a1 : Int) (a2 : Int) (a3_0 : Int) (a3_1 : Int) (a3_2 : Int) : Option (Int × Int × Int × Int × Int × Bool × Int × Int) := (ballot_right.f a1 a2).bind fun t107 => (if t107 = true then (if a3_0 < 0 then (ballot_Hear.j0 k a1 a2 true a0_0 a0_1 a0_2 a0_3 a3_0 a3_1 a3_2 0 false a0_0 a3_2) else (if a3_1 < 1 then (ballot_Hear.j0 k a1 a2 true a0_0 a0_1 a0_2 a0_3 a3_0 a3_1 a3_2 0 false a0_0 a3_2) else (ballot_Hear.j0 k a1 a2 (decide (a3_1 > 1099511627776)) a0_0 a0_1 a0_2 a0_3 a3_0 a3_1 a3_2 0 false a0_0 a3_2))) else (ballot_Hear.j0 k a1 a2 true a0_0 a0_1 a0_2 a0_3 a3_0 a3_1 a3_2 0 false a0_0 a3_2))
theorem ballot_Hear.mono_l : ∀ k, (∀ y0 y1 y2 y3 y4 y5 y6 y7 y8 y9 y10 y11 y12 y13, LeO (ballot_Hear.j0 k y0 y1 y2 y3 y4 y5 y6 y7 y8 y9 y10 y11 y12 y13) (ballot_Hear.j0 (k + 1) y0 y1 y2 y3 y4 y5 y6 y7 y8 y9 y10 y11 y12 y13))
  | 0 => fun _ _ _ _ _ _ _ _ _ _ _ _ _ _ r h => by simp [ballot_Hear.j0] at h
  | k + 1 => by
    have ih0 := ballot_Hear.mono_l k
    · intro y0 y1 y2 y3 y4 y5 y6 y7 y8 y9 y10 y11 y12 y13
      unfold ballot_Hear.j0
      repeat' first
      | (with_reducible exact ih0 _ _ _ _ _ _ _ _ _ _ _ _ _ _)
      | (with_reducible exact LeO.refl _)
      | (with_reducible exact LeO.none _)
      | (with_reducible refine LeO.ite ?_ ?_)
      | (with_reducible refine LeO.bind ?_ (fun _ => ?_))
      | exact ih0 _ _ _ _ _ _ _ _ _ _ _ _ _ _
      | exact LeO.none _
      | refine LeO.ite ?_ ?_
      | refine LeO.bind ?_ (fun _ => ?_)
theorem ballot_Hear.mono : ∀ a0 a1 a2 a3 a4 a5 a6 a7 a8 k, LeO (ballot_Hear.f k a0 a1 a2 a3 a4 a5 a6 a7 a8) (ballot_Hear.f (k + 1) a0 a1 a2 a3 a4 a5 a6 a7 a8) := by
  intro a0 a1 a2 a3 a4 a5 a6 a7 a8 k
  have ih0 := ballot_Hear.mono_l k
  unfold ballot_Hear.f
  repeat' first
      | (with_reducible exact ih0 _ _ _ _ _ _ _ _ _ _ _ _ _ _)
      | (with_reducible exact LeO.refl _)
      | (with_reducible exact LeO.none _)
      | (with_reducible refine LeO.ite ?_ ?_)
      | (with_reducible refine LeO.bind ?_ (fun _ => ?_))
      | exact ih0 _ _ _ _ _ _ _ _ _ _ _ _ _ _
      | exact LeO.none _
      | refine LeO.ite ?_ ?_
      | refine LeO.bind ?_ (fun _ => ?_)
def ballot_Hear.T11 : Bool × List (List Nat × List Nat) := (true, [([], []), ([], []), ([1], [1]), ([], []), ([3], [3]), ([2, 4], [2, 4]), ([0, 0], [0]), ([5, 6, 0, 1, 2, 3, 4, 5, 6], [5])])
def ballot_Hear.B11 : List Nat := [0, 0, 2, 0, 8, 30, 1, 127]
theorem ballot_Hear.tab11 : rtab .any (opsOf Try.f11 11) = ballot_Hear.T11 := by kernel_rfl
theorem ballot_Hear.bits11 : waitsOk ballot_Hear.T11.2 ballot_Hear.B11 = true := by kernel_rfl
set_option maxHeartbeats 8000000 in
set_option maxRecDepth 100000 in
theorem ballot_Hear.calls (k : Nat) (a0_0 : Int) (a0_1 : Int) (a0_2 : Int) (a0_3 : Int) (a1 : Int) (a2 : Int) (a3_0 : Int) (a3_1 : Int) (a3_2 : Int) (r1 : Int) (r2 : Int) (r3 : Int) (r4 : Int) (r5 : Int) (r6 : Bool) (r7 : Int) (r8 : Int) (w : World) (h : ballot_Hear.f k a0_0 a0_1 a0_2 a0_3 a1 a2 a3_0 a3_1 a3_2 = some (r1, r2, r3, r4, r5, r6, r7, r8)) :
    Calls Try.prog 11 #[.agg #[.int .i64 a0_0, .int .i64 a0_1, .int .i64 a0_2, .int .i64 a0_3], .int .i64 a1, .int .i64 a2, .agg #[.int .i64 a3_0, .int .i64 a3_1, .int .i64 a3_2]] w fun e w' => e = .returned (.tuple #[.agg #[.int .i64 r1, .int .i64 r2, .int .i64 r3, .int .i64 r4], .agg #[.int .i64 r5, .bool r6, .int .i64 r7, .int .i64 r8]]) ∧ Below w.heap.size w w' := by
  have hu25 := Try.underlying25
  have hu28 := Try.underlying28
  have hu32 := Try.underlying32
  have HB := Aside0.mk (Below.refl w.heap.size w)
  have H : ((ballot_right.f a1 a2).bind fun t107 => (if t107 = true then (if a3_0 < 0 then (ballot_Hear.j0 k a1 a2 true a0_0 a0_1 a0_2 a0_3 a3_0 a3_1 a3_2 0 false a0_0 a3_2) else (if a3_1 < 1 then (ballot_Hear.j0 k a1 a2 true a0_0 a0_1 a0_2 a0_3 a3_0 a3_1 a3_2 0 false a0_0 a3_2) else (ballot_Hear.j0 k a1 a2 (decide (a3_1 > 1099511627776)) a0_0 a0_1 a0_2 a0_3 a3_0 a3_1 a3_2 0 false a0_0 a3_2))) else (ballot_Hear.j0 k a1 a2 true a0_0 a0_1 a0_2 a0_3 a3_0 a3_1 a3_2 0 false a0_0 a3_2))) = some (r1, r2, r3, r4, r5, r6, r7, r8) := h
  clear h
  have HC5 := Aside0.mk H
  clear H
  go_enter Try.func11, Try.ntmps11
  go_upto_region 2 with (first | ((with_reducible refine gate_dst (N := 4) rfl ?_); refine box_event ?hg (N := 4) ?hd (cs := #[.int .i64 a0_0, .int .i64 a0_1, .int .i64 a0_2, .int .i64 a0_3]) (t := 25) ?hr ?_; (case hd => rfl); (case hg => rfl); (case hr => first | (go_simp; done) | (go_simp; rfl)); intro gb102 hg w6 hbox hb; have n0_ := Aside0.mk (below_step (by repeat (first | (with_reducible first | exact HB.out | apply below_alloc | apply pw_below_drewN | apply below_drew1) | exact HB.out)) hb); have n1_ := Aside0.mk (hbox); have n2_ := Aside0.mk ((by rw [hg]; exact (below_size (by repeat (first | (with_reducible first | exact HB.out | apply below_alloc | apply pw_below_drewN | apply below_drew1) | exact HB.out))) : w.heap.size ≤ gb102)); have n3_ := Aside0.mk ((by rw [hg]; exact (below_size (by repeat (first | (with_reducible first | exact HB.out | apply below_alloc | apply pw_below_drewN | apply below_drew1) | exact HB.out))) : w.heap.size ≤ gb102)); clear HB; have HB := n0_; have BK102 := n1_; have GW102 := n2_; have GE102 := n3_; clear n0_ n1_ n2_ n3_; clear hb hbox hg) | ((with_reducible refine gate_dst (N := 7) rfl ?_); refine box_event ?hg (N := 7) ?hd (cs := #[.int .i64 a3_0, .int .i64 a3_1, .int .i64 a3_2]) (t := 28) ?hr ?_; (case hd => rfl); (case hg => rfl); (case hr => first | (go_simp; done) | (go_simp; rfl)); intro gb103 hg w7 hbox hb; have n0_ := Aside0.mk (blk_below (g := gb102) (o := .cells #[.int .i64 a0_0, .int .i64 a0_1, .int .i64 a0_2, .int .i64 a0_3] 25 (0, 0)) (by (with_reducible repeat (first | refine blk_drewN ?_ _ | refine blk_drew ?_ | refine blk_alloc ?_ _)); exact BK102.out) hb); have n1_ := Aside0.mk (below_step (by repeat (first | (with_reducible first | exact HB.out | apply below_alloc | apply pw_below_drewN | apply below_drew1 | refine below_set ?_ GE102.out) | exact HB.out)) hb); have n2_ := Aside0.mk (hbox); have n3_ := Aside0.mk ((by rw [hg]; exact (below_size (by repeat (first | (with_reducible first | exact HB.out | apply below_alloc | apply pw_below_drewN | apply below_drew1 | refine below_set ?_ GE102.out) | exact HB.out))) : w.heap.size ≤ gb103)); have n4_ := Aside0.mk ((by rw [hg]; exact (below_size (by repeat (first | (with_reducible first | exact HB.out | apply below_alloc | apply pw_below_drewN | apply below_drew1 | refine below_set ?_ GE102.out) | exact HB.out))) : w.heap.size ≤ gb103)); have n5_ := Aside0.mk ((by rw [hg]; exact Nat.ne_of_lt (blk_lt (g := gb102) (o := .cells #[.int .i64 a0_0, .int .i64 a0_1, .int .i64 a0_2, .int .i64 a0_3] 25 (0, 0)) (by (with_reducible repeat (first | refine blk_drewN ?_ _ | refine blk_drew ?_ | refine blk_alloc ?_ _)); exact BK102.out)) : gb102 ≠ gb103)); have n6_ := Aside0.mk ((by rw [hg]; exact Nat.ne_of_gt (blk_lt (g := gb102) (o := .cells #[.int .i64 a0_0, .int .i64 a0_1, .int .i64 a0_2, .int .i64 a0_3] 25 (0, 0)) (by (with_reducible repeat (first | refine blk_drewN ?_ _ | refine blk_drew ?_ | refine blk_alloc ?_ _)); exact BK102.out)) : gb103 ≠ gb102)); clear BK102; clear HB; have BK102 := n0_; have HB := n1_; have BK103 := n2_; have GW103 := n3_; have GE103 := n4_; have NB102_103 := n5_; have NB103_102 := n6_; clear n0_ n1_ n2_ n3_ n4_ n5_ n6_; clear hb hbox hg) | ((with_reducible refine gate_dst (N := 8) rfl ?_); refine box_event ?hg (N := 8) ?hd (cs := #[.int .i64 0, .int .i64 0, .int .i64 0, .int .i64 0]) (t := 25) ?hr ?_; (case hd => rfl); (case hg => rfl); (case hr => first | (go_simp; done) | (go_simp; rfl)); intro gb104 hg w8 hbox hb; have n0_ := Aside0.mk (blk_below (g := gb102) (o := .cells #[.int .i64 a0_0, .int .i64 a0_1, .int .i64 a0_2, .int .i64 a0_3] 25 (0, 0)) (by (with_reducible repeat (first | refine blk_drewN ?_ _ | refine blk_drew ?_ | refine blk_alloc ?_ _)); exact BK102.out) hb); have n1_ := Aside0.mk (blk_below (g := gb103) (o := .cells #[.int .i64 a3_0, .int .i64 a3_1, .int .i64 a3_2] 28 (0, 0)) (by (with_reducible repeat (first | refine blk_drewN ?_ _ | refine blk_drew ?_ | refine blk_alloc ?_ _)); exact BK103.out) hb); have n2_ := Aside0.mk (below_step (by repeat (first | (with_reducible first | exact HB.out | apply below_alloc | apply pw_below_drewN | apply below_drew1 | refine below_set ?_ GE102.out | refine below_set ?_ GE103.out) | exact HB.out)) hb); have n3_ := Aside0.mk (hbox); have n4_ := Aside0.mk ((by rw [hg]; exact (below_size (by repeat (first | (with_reducible first | exact HB.out | apply below_alloc | apply pw_below_drewN | apply below_drew1 | refine below_set ?_ GE102.out | refine below_set ?_ GE103.out) | exact HB.out))) : w.heap.size ≤ gb104)); have n5_ := Aside0.mk ((by rw [hg]; exact (below_size (by repeat (first | (with_reducible first | exact HB.out | apply below_alloc | apply pw_below_drewN | apply below_drew1 | refine below_set ?_ GE102.out | refine below_set ?_ GE103.out) | exact HB.out))) : w.heap.size ≤ gb104)); have n6_ := Aside0.mk ((by rw [hg]; exact Nat.ne_of_lt (blk_lt (g := gb102) (o := .cells #[.int .i64 a0_0, .int .i64 a0_1, .int .i64 a0_2, .int .i64 a0_3] 25 (0, 0)) (by (with_reducible repeat (first | refine blk_drewN ?_ _ | refine blk_drew ?_ | refine blk_alloc ?_ _)); exact BK102.out)) : gb102 ≠ gb104)); have n7_ := Aside0.mk ((by rw [hg]; exact Nat.ne_of_gt (blk_lt (g := gb102) (o := .cells #[.int .i64 a0_0, .int .i64 a0_1, .int .i64 a0_2, .int .i64 a0_3] 25 (0, 0)) (by (with_reducible repeat (first | refine blk_drewN ?_ _ | refine blk_drew ?_ | refine blk_alloc ?_ _)); exact BK102.out)) : gb104 ≠ gb102)); have n8_ := Aside0.mk ((by rw [hg]; exact Nat.ne_of_lt (blk_lt (g := gb103) (o := .cells #[.int .i64 a3_0, .int .i64 a3_1, .int .i64 a3_2] 28 (0, 0)) (by (with_reducible repeat (first | refine blk_drewN ?_ _ | refine blk_drew ?_ | refine blk_alloc ?_ _)); exact BK103.out)) : gb103 ≠ gb104)); have n9_ := Aside0.mk ((by rw [hg]; exact Nat.ne_of_gt (blk_lt (g := gb103) (o := .cells #[.int .i64 a3_0, .int .i64 a3_1, .int .i64 a3_2] 28 (0, 0)) (by (with_reducible repeat (first | refine blk_drewN ?_ _ | refine blk_drew ?_ | refine blk_alloc ?_ _)); exact BK103.out)) : gb104 ≠ gb103)); clear BK102; clear BK103; clear HB; have BK102 := n0_; have BK103 := n1_; have HB := n2_; have BK104 := n3_; have GW104 := n4_; have GE104 := n5_; have NB102_104 := n6_; have NB104_102 := n7_; have NB103_104 := n8_; have NB104_103 := n9_; clear n0_ n1_ n2_ n3_ n4_ n5_ n6_ n7_ n8_ n9_; clear hb hbox hg) | ((with_reducible refine gate_dst (N := 9) rfl ?_); refine box_event ?hg (N := 9) ?hd (cs := #[.int .i64 0, .bool false, .int .i64 0, .int .i64 0]) (t := 32) ?hr ?_; (case hd => rfl); (case hg => rfl); (case hr => first | (go_simp; done) | (go_simp; rfl)); intro gb105 hg w9 hbox hb; have n0_ := Aside0.mk (blk_below (g := gb102) (o := .cells #[.int .i64 a0_0, .int .i64 a0_1, .int .i64 a0_2, .int .i64 a0_3] 25 (0, 0)) (by (with_reducible repeat (first | refine blk_drewN ?_ _ | refine blk_drew ?_ | refine blk_alloc ?_ _)); exact BK102.out) hb); have n1_ := Aside0.mk (blk_below (g := gb103) (o := .cells #[.int .i64 a3_0, .int .i64 a3_1, .int .i64 a3_2] 28 (0, 0)) (by (with_reducible repeat (first | refine blk_drewN ?_ _ | refine blk_drew ?_ | refine blk_alloc ?_ _)); exact BK103.out) hb); have n2_ := Aside0.mk (blk_below (g := gb104) (o := .cells #[.int .i64 0, .int .i64 0, .int .i64 0, .int .i64 0] 25 (0, 0)) (by (with_reducible repeat (first | refine blk_drewN ?_ _ | refine blk_drew ?_ | refine blk_alloc ?_ _)); exact BK104.out) hb); have n3_ := Aside0.mk (below_step (by repeat (first | (with_reducible first | exact HB.out | apply below_alloc | apply pw_below_drewN | apply below_drew1 | refine below_set ?_ GE102.out | refine below_set ?_ GE103.out | refine below_set ?_ GE104.out) | exact HB.out)) hb); have n4_ := Aside0.mk (hbox); have n5_ := Aside0.mk ((by rw [hg]; exact (below_size (by repeat (first | (with_reducible first | exact HB.out | apply below_alloc | apply pw_below_drewN | apply below_drew1 | refine below_set ?_ GE102.out | refine below_set ?_ GE103.out | refine below_set ?_ GE104.out) | exact HB.out))) : w.heap.size ≤ gb105)); have n6_ := Aside0.mk ((by rw [hg]; exact (below_size (by repeat (first | (with_reducible first | exact HB.out | apply below_alloc | apply pw_below_drewN | apply below_drew1 | refine below_set ?_ GE102.out | refine below_set ?_ GE103.out | refine below_set ?_ GE104.out) | exact HB.out))) : w.heap.size ≤ gb105)); have n7_ := Aside0.mk ((by rw [hg]; exact Nat.ne_of_lt (blk_lt (g := gb102) (o := .cells #[.int .i64 a0_0, .int .i64 a0_1, .int .i64 a0_2, .int .i64 a0_3] 25 (0, 0)) (by (with_reducible repeat (first | refine blk_drewN ?_ _ | refine blk_drew ?_ | refine blk_alloc ?_ _)); exact BK102.out)) : gb102 ≠ gb105)); have n8_ := Aside0.mk ((by rw [hg]; exact Nat.ne_of_gt (blk_lt (g := gb102) (o := .cells #[.int .i64 a0_0, .int .i64 a0_1, .int .i64 a0_2, .int .i64 a0_3] 25 (0, 0)) (by (with_reducible repeat (first | refine blk_drewN ?_ _ | refine blk_drew ?_ | refine blk_alloc ?_ _)); exact BK102.out)) : gb105 ≠ gb102)); have n9_ := Aside0.mk ((by rw [hg]; exact Nat.ne_of_lt (blk_lt (g := gb103) (o := .cells #[.int .i64 a3_0, .int .i64 a3_1, .int .i64 a3_2] 28 (0, 0)) (by (with_reducible repeat (first | refine blk_drewN ?_ _ | refine blk_drew ?_ | refine blk_alloc ?_ _)); exact BK103.out)) : gb103 ≠ gb105)); have n10_ := Aside0.mk ((by rw [hg]; exact Nat.ne_of_gt (blk_lt (g := gb103) (o := .cells #[.int .i64 a3_0, .int .i64 a3_1, .int .i64 a3_2] 28 (0, 0)) (by (with_reducible repeat (first | refine blk_drewN ?_ _ | refine blk_drew ?_ | refine blk_alloc ?_ _)); exact BK103.out)) : gb105 ≠ gb103)); have n11_ := Aside0.mk ((by rw [hg]; exact Nat.ne_of_lt (blk_lt (g := gb104) (o := .cells #[.int .i64 0, .int .i64 0, .int .i64 0, .int .i64 0] 25 (0, 0)) (by (with_reducible repeat (first | refine blk_drewN ?_ _ | refine blk_drew ?_ | refine blk_alloc ?_ _)); exact BK104.out)) : gb104 ≠ gb105)); have n12_ := Aside0.mk ((by rw [hg]; exact Nat.ne_of_gt (blk_lt (g := gb104) (o := .cells #[.int .i64 0, .int .i64 0, .int .i64 0, .int .i64 0] 25 (0, 0)) (by (with_reducible repeat (first | refine blk_drewN ?_ _ | refine blk_drew ?_ | refine blk_alloc ?_ _)); exact BK104.out)) : gb105 ≠ gb104)); clear BK102; clear BK103; clear BK104; clear HB; have BK102 := n0_; have BK103 := n1_; have BK104 := n2_; have HB := n3_; have BK105 := n4_; have GW105 := n5_; have GE105 := n6_; have NB102_105 := n7_; have NB105_102 := n8_; have NB103_105 := n9_; have NB105_103 := n10_; have NB104_105 := n11_; have NB105_104 := n12_; clear n0_ n1_ n2_ n3_ n4_ n5_ n6_ n7_ n8_ n9_ n10_ n11_ n12_; clear hb hbox hg; have hnb10 := NB102_103.out; have hnc10 := NB103_102.out; have hnb11 := NB102_104.out; have hnc11 := NB104_102.out; have hnb12 := NB102_105.out; have hnc12 := NB105_102.out; have hcz13_0 : w9.cell? ⟨gb102, 0, none⟩ = some (.int .i64 a0_0) := (blk_cell BK102.out 0).trans rfl; have hcz13_1 : w9.cell? ⟨gb102, 1, none⟩ = some (.int .i64 a0_1) := (blk_cell BK102.out 1).trans rfl; have hcz13_2 : w9.cell? ⟨gb102, 2, none⟩ = some (.int .i64 a0_2) := (blk_cell BK102.out 2).trans rfl; have hcz13_3 : w9.cell? ⟨gb102, 3, none⟩ = some (.int .i64 a0_3) := (blk_cell BK102.out 3).trans rfl; have hfz13_0 := blk_frozen BK102.out 0; have hfz13_1 := blk_frozen BK102.out 1; have hfz13_2 := blk_frozen BK102.out 2; have hfz13_3 := blk_frozen BK102.out 3; have hnb14 := NB103_104.out; have hnc14 := NB104_103.out; have hnb15 := NB103_105.out; have hnc15 := NB105_103.out; have hcz16_0 : w9.cell? ⟨gb103, 0, none⟩ = some (.int .i64 a3_0) := (blk_cell BK103.out 0).trans rfl; have hcz16_1 : w9.cell? ⟨gb103, 1, none⟩ = some (.int .i64 a3_1) := (blk_cell BK103.out 1).trans rfl; have hcz16_2 : w9.cell? ⟨gb103, 2, none⟩ = some (.int .i64 a3_2) := (blk_cell BK103.out 2).trans rfl; have hfz16_0 := blk_frozen BK103.out 0; have hfz16_1 := blk_frozen BK103.out 1; have hfz16_2 := blk_frozen BK103.out 2) | ((with_reducible refine gate_dst (N := 10) rfl ?_); refine box_event ?hg (N := 10) ?hd (cs := #[.int .i64 0, .bool false, .int .i64 0, .int .i64 0]) (t := 32) ?hr ?_; (case hd => rfl); (case hg => rfl); (case hr => first | (go_simp; done) | (go_simp; rfl)); intro gb106 hg w17 hbox hb; have n0_ := Aside0.mk (blk_below (g := gb102) (o := .cells #[.int .i64 a0_0, .int .i64 a0_1, .int .i64 a0_2, .int .i64 a0_3] 25 (0, 0)) (by (with_reducible repeat (first | refine blk_drewN ?_ _ | refine blk_drew ?_ | refine blk_alloc ?_ _)); exact BK102.out) hb); have n1_ := Aside0.mk (blk_below (g := gb103) (o := .cells #[.int .i64 a3_0, .int .i64 a3_1, .int .i64 a3_2] 28 (0, 0)) (by (with_reducible repeat (first | refine blk_drewN ?_ _ | refine blk_drew ?_ | refine blk_alloc ?_ _)); exact BK103.out) hb); have n2_ := Aside0.mk (blk_below (g := gb104) (o := .cells #[.int .i64 0, .int .i64 0, .int .i64 0, .int .i64 0] 25 (0, 0)) (by (with_reducible repeat (first | refine blk_drewN ?_ _ | refine blk_drew ?_ | refine blk_alloc ?_ _)); exact BK104.out) hb); have n3_ := Aside0.mk (blk_below (g := gb105) (o := .cells #[.int .i64 0, .bool false, .int .i64 0, .int .i64 0] 32 (0, 0)) (by (with_reducible repeat (first | refine blk_drewN ?_ _ | refine blk_drew ?_ | refine blk_alloc ?_ _)); exact BK105.out) hb); have n4_ := Aside0.mk (below_step (by repeat (first | (with_reducible first | exact HB.out | apply below_alloc | apply pw_below_drewN | apply below_drew1 | refine below_set ?_ GE102.out | refine below_set ?_ GE103.out | refine below_set ?_ GE104.out | refine below_set ?_ GE105.out) | exact HB.out)) hb); have n5_ := Aside0.mk (hbox); have n6_ := Aside0.mk ((by rw [hg]; exact (below_size (by repeat (first | (with_reducible first | exact HB.out | apply below_alloc | apply pw_below_drewN | apply below_drew1 | refine below_set ?_ GE102.out | refine below_set ?_ GE103.out | refine below_set ?_ GE104.out | refine below_set ?_ GE105.out) | exact HB.out))) : w.heap.size ≤ gb106)); have n7_ := Aside0.mk ((by rw [hg]; exact (below_size (by repeat (first | (with_reducible first | exact HB.out | apply below_alloc | apply pw_below_drewN | apply below_drew1 | refine below_set ?_ GE102.out | refine below_set ?_ GE103.out | refine below_set ?_ GE104.out | refine below_set ?_ GE105.out) | exact HB.out))) : w.heap.size ≤ gb106)); have n8_ := Aside0.mk ((by rw [hg]; exact Nat.ne_of_lt (blk_lt (g := gb102) (o := .cells #[.int .i64 a0_0, .int .i64 a0_1, .int .i64 a0_2, .int .i64 a0_3] 25 (0, 0)) (by (with_reducible repeat (first | refine blk_drewN ?_ _ | refine blk_drew ?_ | refine blk_alloc ?_ _)); exact BK102.out)) : gb102 ≠ gb106)); have n9_ := Aside0.mk ((by rw [hg]; exact Nat.ne_of_gt (blk_lt (g := gb102) (o := .cells #[.int .i64 a0_0, .int .i64 a0_1, .int .i64 a0_2, .int .i64 a0_3] 25 (0, 0)) (by (with_reducible repeat (first | refine blk_drewN ?_ _ | refine blk_drew ?_ | refine blk_alloc ?_ _)); exact BK102.out)) : gb106 ≠ gb102)); have n10_ := Aside0.mk ((by rw [hg]; exact Nat.ne_of_lt (blk_lt (g := gb103) (o := .cells #[.int .i64 a3_0, .int .i64 a3_1, .int .i64 a3_2] 28 (0, 0)) (by (with_reducible repeat (first | refine blk_drewN ?_ _ | refine blk_drew ?_ | refine blk_alloc ?_ _)); exact BK103.out)) : gb103 ≠ gb106)); have n11_ := Aside0.mk ((by rw [hg]; exact Nat.ne_of_gt (blk_lt (g := gb103) (o := .cells #[.int .i64 a3_0, .int .i64 a3_1, .int .i64 a3_2] 28 (0, 0)) (by (with_reducible repeat (first | refine blk_drewN ?_ _ | refine blk_drew ?_ | refine blk_alloc ?_ _)); exact BK103.out)) : gb106 ≠ gb103)); have n12_ := Aside0.mk ((by rw [hg]; exact Nat.ne_of_lt (blk_lt (g := gb104) (o := .cells #[.int .i64 0, .int .i64 0, .int .i64 0, .int .i64 0] 25 (0, 0)) (by (with_reducible repeat (first | refine blk_drewN ?_ _ | refine blk_drew ?_ | refine blk_alloc ?_ _)); exact BK104.out)) : gb104 ≠ gb106)); have n13_ := Aside0.mk ((by rw [hg]; exact Nat.ne_of_gt (blk_lt (g := gb104) (o := .cells #[.int .i64 0, .int .i64 0, .int .i64 0, .int .i64 0] 25 (0, 0)) (by (with_reducible repeat (first | refine blk_drewN ?_ _ | refine blk_drew ?_ | refine blk_alloc ?_ _)); exact BK104.out)) : gb106 ≠ gb104)); have n14_ := Aside0.mk ((by rw [hg]; exact Nat.ne_of_lt (blk_lt (g := gb105) (o := .cells #[.int .i64 0, .bool false, .int .i64 0, .int .i64 0] 32 (0, 0)) (by (with_reducible repeat (first | refine blk_drewN ?_ _ | refine blk_drew ?_ | refine blk_alloc ?_ _)); exact BK105.out)) : gb105 ≠ gb106)); have n15_ := Aside0.mk ((by rw [hg]; exact Nat.ne_of_gt (blk_lt (g := gb105) (o := .cells #[.int .i64 0, .bool false, .int .i64 0, .int .i64 0] 32 (0, 0)) (by (with_reducible repeat (first | refine blk_drewN ?_ _ | refine blk_drew ?_ | refine blk_alloc ?_ _)); exact BK105.out)) : gb106 ≠ gb105)); clear BK102; clear BK103; clear BK104; clear BK105; clear HB; have BK102 := n0_; have BK103 := n1_; have BK104 := n2_; have BK105 := n3_; have HB := n4_; have BK106 := n5_; have GW106 := n6_; have GE106 := n7_; have NB102_106 := n8_; have NB106_102 := n9_; have NB103_106 := n10_; have NB106_103 := n11_; have NB104_106 := n12_; have NB106_104 := n13_; have NB105_106 := n14_; have NB106_105 := n15_; clear n0_ n1_ n2_ n3_ n4_ n5_ n6_ n7_ n8_ n9_ n10_ n11_ n12_ n13_ n14_ n15_; clear hb hbox hg; have hnb18 := NB106_102.out; have hnc18 := NB102_106.out; have hnb19 := NB106_103.out; have hnc19 := NB103_106.out; have hnb20 := NB106_104.out; have hnc20 := NB104_106.out; have hnb21 := NB106_105.out; have hnc21 := NB105_106.out; have hcz22_0 : w17.cell? ⟨gb106, 0, none⟩ = some (.int .i64 0) := (blk_cell BK106.out 0).trans rfl; have hcz22_1 : w17.cell? ⟨gb106, 1, none⟩ = some (.bool false) := (blk_cell BK106.out 1).trans rfl; have hcz22_2 : w17.cell? ⟨gb106, 2, none⟩ = some (.int .i64 0) := (blk_cell BK106.out 2).trans rfl; have hcz22_3 : w17.cell? ⟨gb106, 3, none⟩ = some (.int .i64 0) := (blk_cell BK106.out 3).trans rfl; have hfz22_0 := blk_frozen BK106.out 0; have hfz22_1 := blk_frozen BK106.out 1; have hfz22_2 := blk_frozen BK106.out 2; have hfz22_3 := blk_frozen BK106.out 3))
  (try simp only [Act.put, List.setIfInBounds_toArray, List.set_cons_zero, List.set_cons_succ])
  go_cut [35] (fun v35 wc => ∃ (kq : Nat) (x35_4 : Bool), v35 = .bool x35_4 ∧ Aside0 (ballot_Hear.j0 kq a1 a2 x35_4 a0_0 a0_1 a0_2 a0_3 a3_0 a3_1 a3_2 0 false a0_0 a3_2 = some (r1, r2, r3, r4, r5, r6, r7, r8)) ∧ Aside0 (kq ≤ k) ∧ Aside0 (wc.heap[gb102]? = some (.cells #[.int .i64 a0_0, .int .i64 a0_1, .int .i64 a0_2, .int .i64 a0_3] 25 (0, 0))) ∧ Aside0 (wc.heap[gb103]? = some (.cells #[.int .i64 a3_0, .int .i64 a3_1, .int .i64 a3_2] 28 (0, 0))) ∧ Aside0 (wc.heap[gb104]? = some (.cells #[.int .i64 0, .int .i64 0, .int .i64 0, .int .i64 0] 25 (0, 0))) ∧ Aside0 (wc.heap[gb105]? = some (.cells #[.int .i64 0, .bool false, .int .i64 0, .int .i64 0] 32 (0, 0))) ∧ Aside0 (wc.heap[gb106]? = some (.cells #[.int .i64 0, .bool false, .int .i64 a0_0, .int .i64 a3_2] 32 (0, 0))) ∧ Aside0 (Below w.heap.size w wc))
  case first =>
    have H := HC5.out
    clear HC5
    replace H := Option.bind_eq_some_iff.mp H
    obtain ⟨t107, A230, H⟩ := H
    replace H : (if t107 = true then (if a3_0 < 0 then (ballot_Hear.j0 k a1 a2 true a0_0 a0_1 a0_2 a0_3 a3_0 a3_1 a3_2 0 false a0_0 a3_2) else (if a3_1 < 1 then (ballot_Hear.j0 k a1 a2 true a0_0 a0_1 a0_2 a0_3 a3_0 a3_1 a3_2 0 false a0_0 a3_2) else (ballot_Hear.j0 k a1 a2 (decide (a3_1 > 1099511627776)) a0_0 a0_1 a0_2 a0_3 a3_0 a3_1 a3_2 0 false a0_0 a3_2))) else (ballot_Hear.j0 k a1 a2 true a0_0 a0_1 a0_2 a0_3 a3_0 a3_1 a3_2 0 false a0_0 a3_2)) = some (r1, r2, r3, r4, r5, r6, r7, r8) := H
    have A23 := Aside0.mk A230
    clear A230
    by_cases c24 : t107 = true
    · subst c24
      have H1 : (if a3_0 < 0 then (ballot_Hear.j0 k a1 a2 true a0_0 a0_1 a0_2 a0_3 a3_0 a3_1 a3_2 0 false a0_0 a3_2) else (if a3_1 < 1 then (ballot_Hear.j0 k a1 a2 true a0_0 a0_1 a0_2 a0_3 a3_0 a3_1 a3_2 0 false a0_0 a3_2) else (ballot_Hear.j0 k a1 a2 (decide (a3_1 > 1099511627776)) a0_0 a0_1 a0_2 a0_3 a3_0 a3_1 a3_2 0 false a0_0 a3_2))) = some (r1, r2, r3, r4, r5, r6, r7, r8) := by rw [if_pos rfl] at H; exact H
      clear H
      have H := H1
      clear H1
      by_cases c25 : a3_0 < 0
      · rw [if_pos c25] at H
        have c25b0 : decide (a3_0 < 0) = true := decide_eq_true c25
        clear c25
        (first | rw [c25b0] | (simp only [i64_w, i32_w]; rw [c25b0]) | skip)
        have H' := Aside0.mk H
        clear H
        go_wp2_with (first | ((with_reducible refine gate_callee (f := 22) rfl ?_); refine goesL_ (some 19) rfl rfl Try.func22 (by kernel_rfl) rfl #[.int .i64 a1, .int .i64 a2] rfl (by (try simp only [List.map_toArray, List.map_cons, List.map_nil]); first | done | rfl | (simp only [List.length_drop, List.length_take]; rfl)) ?_; (with_reducible refine (ballot_right.calls a1 a2 true _ A23.out).mono ?_); rintro e w' ⟨rfl, ⟨nd, rfl⟩⟩; refine ⟨_, rfl, ?_⟩; have hnb26 := NB103_102.out; have hnc26 := NB102_103.out; have hnb27 := NB103_104.out; have hnc27 := NB104_103.out; have hnb28 := NB103_105.out; have hnc28 := NB105_103.out; have hnb29 := NB103_106.out; have hnc29 := NB106_103.out; have hcz30_0 : w17.cell? ⟨gb103, 0, none⟩ = some (.int .i64 a3_0) := (blk_cell BK103.out 0).trans rfl; have hcz30_1 : w17.cell? ⟨gb103, 1, none⟩ = some (.int .i64 a3_1) := (blk_cell BK103.out 1).trans rfl; have hcz30_2 : w17.cell? ⟨gb103, 2, none⟩ = some (.int .i64 a3_2) := (blk_cell BK103.out 2).trans rfl; have hfz30_0 := blk_frozen BK103.out 0; have hfz30_1 := blk_frozen BK103.out 1; have hfz30_2 := blk_frozen BK103.out 2))
        go_meet
        case rel => exact ⟨_, (true), (by first | rfl | (simp; done) | (simp [*]; done)), H', ⟨by first | omega | exact Nat.le_refl _⟩, ⟨by (with_reducible repeat (first | refine blk_drewN ?_ _ | refine blk_drew ?_ | refine blk_alloc ?_ _)); refine blk_far ?_ NB102_106.out _; (with_reducible repeat (first | refine blk_drewN ?_ _ | refine blk_drew ?_ | refine blk_alloc ?_ _)); refine blk_far ?_ NB102_106.out _; (with_reducible repeat (first | refine blk_drewN ?_ _ | refine blk_drew ?_ | refine blk_alloc ?_ _)); refine blk_far ?_ NB102_106.out _; (with_reducible repeat (first | refine blk_drewN ?_ _ | refine blk_drew ?_ | refine blk_alloc ?_ _)); refine blk_far ?_ NB102_106.out _; (with_reducible repeat (first | refine blk_drewN ?_ _ | refine blk_drew ?_ | refine blk_alloc ?_ _)); exact BK102.out⟩, ⟨by (with_reducible repeat (first | refine blk_drewN ?_ _ | refine blk_drew ?_ | refine blk_alloc ?_ _)); refine blk_far ?_ NB103_106.out _; (with_reducible repeat (first | refine blk_drewN ?_ _ | refine blk_drew ?_ | refine blk_alloc ?_ _)); refine blk_far ?_ NB103_106.out _; (with_reducible repeat (first | refine blk_drewN ?_ _ | refine blk_drew ?_ | refine blk_alloc ?_ _)); refine blk_far ?_ NB103_106.out _; (with_reducible repeat (first | refine blk_drewN ?_ _ | refine blk_drew ?_ | refine blk_alloc ?_ _)); refine blk_far ?_ NB103_106.out _; (with_reducible repeat (first | refine blk_drewN ?_ _ | refine blk_drew ?_ | refine blk_alloc ?_ _)); exact BK103.out⟩, ⟨by (with_reducible repeat (first | refine blk_drewN ?_ _ | refine blk_drew ?_ | refine blk_alloc ?_ _)); refine blk_far ?_ NB104_106.out _; (with_reducible repeat (first | refine blk_drewN ?_ _ | refine blk_drew ?_ | refine blk_alloc ?_ _)); refine blk_far ?_ NB104_106.out _; (with_reducible repeat (first | refine blk_drewN ?_ _ | refine blk_drew ?_ | refine blk_alloc ?_ _)); refine blk_far ?_ NB104_106.out _; (with_reducible repeat (first | refine blk_drewN ?_ _ | refine blk_drew ?_ | refine blk_alloc ?_ _)); refine blk_far ?_ NB104_106.out _; (with_reducible repeat (first | refine blk_drewN ?_ _ | refine blk_drew ?_ | refine blk_alloc ?_ _)); exact BK104.out⟩, ⟨by (with_reducible repeat (first | refine blk_drewN ?_ _ | refine blk_drew ?_ | refine blk_alloc ?_ _)); refine blk_far ?_ NB105_106.out _; (with_reducible repeat (first | refine blk_drewN ?_ _ | refine blk_drew ?_ | refine blk_alloc ?_ _)); refine blk_far ?_ NB105_106.out _; (with_reducible repeat (first | refine blk_drewN ?_ _ | refine blk_drew ?_ | refine blk_alloc ?_ _)); refine blk_far ?_ NB105_106.out _; (with_reducible repeat (first | refine blk_drewN ?_ _ | refine blk_drew ?_ | refine blk_alloc ?_ _)); refine blk_far ?_ NB105_106.out _; (with_reducible repeat (first | refine blk_drewN ?_ _ | refine blk_drew ?_ | refine blk_alloc ?_ _)); exact BK105.out⟩, ⟨by (with_reducible repeat (first | refine blk_drewN ?_ _ | refine blk_drew ?_ | refine blk_alloc ?_ _)); refine blk_put (cs := #[.int .i64 0, .bool false, .int .i64 a0_0, .int .i64 0]) ?_ 3 _ rfl; (with_reducible repeat (first | refine blk_drewN ?_ _ | refine blk_drew ?_ | refine blk_alloc ?_ _)); refine blk_put (cs := #[.int .i64 0, .bool false, .int .i64 0, .int .i64 0]) ?_ 2 _ rfl; (with_reducible repeat (first | refine blk_drewN ?_ _ | refine blk_drew ?_ | refine blk_alloc ?_ _)); refine blk_put (cs := #[.int .i64 0, .bool false, .int .i64 0, .int .i64 0]) ?_ 1 _ rfl; (with_reducible repeat (first | refine blk_drewN ?_ _ | refine blk_drew ?_ | refine blk_alloc ?_ _)); refine blk_put (cs := #[.int .i64 0, .bool false, .int .i64 0, .int .i64 0]) ?_ 0 _ rfl; (with_reducible repeat (first | refine blk_drewN ?_ _ | refine blk_drew ?_ | refine blk_alloc ?_ _)); exact BK106.out⟩, ⟨by repeat (first | (with_reducible first | exact HB.out | apply below_alloc | apply pw_below_drewN | apply below_drew1 | refine below_set ?_ GE102.out | refine below_set ?_ GE103.out | refine below_set ?_ GE104.out | refine below_set ?_ GE105.out | refine below_set ?_ GE106.out) | exact HB.out)⟩⟩
      · rw [if_neg c25] at H
        have c25b0 : decide (a3_0 < 0) = false := decide_eq_false c25
        clear c25
        (first | rw [c25b0] | (simp only [i64_w, i32_w]; rw [c25b0]) | skip)
        by_cases c31 : a3_1 < 1
        · rw [if_pos c31] at H
          have c31b0 : decide (a3_1 < 1) = true := decide_eq_true c31
          clear c31
          have H' := Aside0.mk H
          clear H
          go_wp2_with (first | ((with_reducible refine gate_callee (f := 22) rfl ?_); refine goesL_ (some 19) rfl rfl Try.func22 (by kernel_rfl) rfl #[.int .i64 a1, .int .i64 a2] rfl (by (try simp only [List.map_toArray, List.map_cons, List.map_nil]); first | done | rfl | (simp only [List.length_drop, List.length_take]; rfl)) ?_; (with_reducible refine (ballot_right.calls a1 a2 true _ A23.out).mono ?_); rintro e w' ⟨rfl, ⟨nd, rfl⟩⟩; refine ⟨_, rfl, ?_⟩; have hnb32 := NB103_102.out; have hnc32 := NB102_103.out; have hnb33 := NB103_104.out; have hnc33 := NB104_103.out; have hnb34 := NB103_105.out; have hnc34 := NB105_103.out; have hnb35 := NB103_106.out; have hnc35 := NB106_103.out; have hcz36_0 : w17.cell? ⟨gb103, 0, none⟩ = some (.int .i64 a3_0) := (blk_cell BK103.out 0).trans rfl; have hcz36_1 : w17.cell? ⟨gb103, 1, none⟩ = some (.int .i64 a3_1) := (blk_cell BK103.out 1).trans rfl; have hcz36_2 : w17.cell? ⟨gb103, 2, none⟩ = some (.int .i64 a3_2) := (blk_cell BK103.out 2).trans rfl; have hfz36_0 := blk_frozen BK103.out 0; have hfz36_1 := blk_frozen BK103.out 1; have hfz36_2 := blk_frozen BK103.out 2))
          go_meet
          case rel => exact ⟨_, (true), (by first | rfl | (simp; done) | (simp [*]; done)), H', ⟨by first | omega | exact Nat.le_refl _⟩, ⟨by (with_reducible repeat (first | refine blk_drewN ?_ _ | refine blk_drew ?_ | refine blk_alloc ?_ _)); refine blk_far ?_ NB102_106.out _; (with_reducible repeat (first | refine blk_drewN ?_ _ | refine blk_drew ?_ | refine blk_alloc ?_ _)); refine blk_far ?_ NB102_106.out _; (with_reducible repeat (first | refine blk_drewN ?_ _ | refine blk_drew ?_ | refine blk_alloc ?_ _)); refine blk_far ?_ NB102_106.out _; (with_reducible repeat (first | refine blk_drewN ?_ _ | refine blk_drew ?_ | refine blk_alloc ?_ _)); refine blk_far ?_ NB102_106.out _; (with_reducible repeat (first | refine blk_drewN ?_ _ | refine blk_drew ?_ | refine blk_alloc ?_ _)); exact BK102.out⟩, ⟨by (with_reducible repeat (first | refine blk_drewN ?_ _ | refine blk_drew ?_ | refine blk_alloc ?_ _)); refine blk_far ?_ NB103_106.out _; (with_reducible repeat (first | refine blk_drewN ?_ _ | refine blk_drew ?_ | refine blk_alloc ?_ _)); refine blk_far ?_ NB103_106.out _; (with_reducible repeat (first | refine blk_drewN ?_ _ | refine blk_drew ?_ | refine blk_alloc ?_ _)); refine blk_far ?_ NB103_106.out _; (with_reducible repeat (first | refine blk_drewN ?_ _ | refine blk_drew ?_ | refine blk_alloc ?_ _)); refine blk_far ?_ NB103_106.out _; (with_reducible repeat (first | refine blk_drewN ?_ _ | refine blk_drew ?_ | refine blk_alloc ?_ _)); exact BK103.out⟩, ⟨by (with_reducible repeat (first | refine blk_drewN ?_ _ | refine blk_drew ?_ | refine blk_alloc ?_ _)); refine blk_far ?_ NB104_106.out _; (with_reducible repeat (first | refine blk_drewN ?_ _ | refine blk_drew ?_ | refine blk_alloc ?_ _)); refine blk_far ?_ NB104_106.out _; (with_reducible repeat (first | refine blk_drewN ?_ _ | refine blk_drew ?_ | refine blk_alloc ?_ _)); refine blk_far ?_ NB104_106.out _; (with_reducible repeat (first | refine blk_drewN ?_ _ | refine blk_drew ?_ | refine blk_alloc ?_ _)); refine blk_far ?_ NB104_106.out _; (with_reducible repeat (first | refine blk_drewN ?_ _ | refine blk_drew ?_ | refine blk_alloc ?_ _)); exact BK104.out⟩, ⟨by (with_reducible repeat (first | refine blk_drewN ?_ _ | refine blk_drew ?_ | refine blk_alloc ?_ _)); refine blk_far ?_ NB105_106.out _; (with_reducible repeat (first | refine blk_drewN ?_ _ | refine blk_drew ?_ | refine blk_alloc ?_ _)); refine blk_far ?_ NB105_106.out _; (with_reducible repeat (first | refine blk_drewN ?_ _ | refine blk_drew ?_ | refine blk_alloc ?_ _)); refine blk_far ?_ NB105_106.out _; (with_reducible repeat (first | refine blk_drewN ?_ _ | refine blk_drew ?_ | refine blk_alloc ?_ _)); refine blk_far ?_ NB105_106.out _; (with_reducible repeat (first | refine blk_drewN ?_ _ | refine blk_drew ?_ | refine blk_alloc ?_ _)); exact BK105.out⟩, ⟨by (with_reducible repeat (first | refine blk_drewN ?_ _ | refine blk_drew ?_ | refine blk_alloc ?_ _)); refine blk_put (cs := #[.int .i64 0, .bool false, .int .i64 a0_0, .int .i64 0]) ?_ 3 _ rfl; (with_reducible repeat (first | refine blk_drewN ?_ _ | refine blk_drew ?_ | refine blk_alloc ?_ _)); refine blk_put (cs := #[.int .i64 0, .bool false, .int .i64 0, .int .i64 0]) ?_ 2 _ rfl; (with_reducible repeat (first | refine blk_drewN ?_ _ | refine blk_drew ?_ | refine blk_alloc ?_ _)); refine blk_put (cs := #[.int .i64 0, .bool false, .int .i64 0, .int .i64 0]) ?_ 1 _ rfl; (with_reducible repeat (first | refine blk_drewN ?_ _ | refine blk_drew ?_ | refine blk_alloc ?_ _)); refine blk_put (cs := #[.int .i64 0, .bool false, .int .i64 0, .int .i64 0]) ?_ 0 _ rfl; (with_reducible repeat (first | refine blk_drewN ?_ _ | refine blk_drew ?_ | refine blk_alloc ?_ _)); exact BK106.out⟩, ⟨by repeat (first | (with_reducible first | exact HB.out | apply below_alloc | apply pw_below_drewN | apply below_drew1 | refine below_set ?_ GE102.out | refine below_set ?_ GE103.out | refine below_set ?_ GE104.out | refine below_set ?_ GE105.out | refine below_set ?_ GE106.out) | exact HB.out)⟩⟩
        · rw [if_neg c31] at H
          have c31b0 : decide (a3_1 < 1) = false := decide_eq_false c31
          clear c31
          have H' := Aside0.mk H
          clear H
          go_wp2_with (first | ((with_reducible refine gate_callee (f := 22) rfl ?_); refine goesL_ (some 19) rfl rfl Try.func22 (by kernel_rfl) rfl #[.int .i64 a1, .int .i64 a2] rfl (by (try simp only [List.map_toArray, List.map_cons, List.map_nil]); first | done | rfl | (simp only [List.length_drop, List.length_take]; rfl)) ?_; (with_reducible refine (ballot_right.calls a1 a2 true _ A23.out).mono ?_); rintro e w' ⟨rfl, ⟨nd, rfl⟩⟩; refine ⟨_, rfl, ?_⟩; have hnb37 := NB103_102.out; have hnc37 := NB102_103.out; have hnb38 := NB103_104.out; have hnc38 := NB104_103.out; have hnb39 := NB103_105.out; have hnc39 := NB105_103.out; have hnb40 := NB103_106.out; have hnc40 := NB106_103.out; have hcz41_0 : w17.cell? ⟨gb103, 0, none⟩ = some (.int .i64 a3_0) := (blk_cell BK103.out 0).trans rfl; have hcz41_1 : w17.cell? ⟨gb103, 1, none⟩ = some (.int .i64 a3_1) := (blk_cell BK103.out 1).trans rfl; have hcz41_2 : w17.cell? ⟨gb103, 2, none⟩ = some (.int .i64 a3_2) := (blk_cell BK103.out 2).trans rfl; have hfz41_0 := blk_frozen BK103.out 0; have hfz41_1 := blk_frozen BK103.out 1; have hfz41_2 := blk_frozen BK103.out 2))
          go_meet
          case rel => exact ⟨_, (decide (a3_1 > 1099511627776)), (by first | rfl | (simp; done) | (simp [*]; done)), H', ⟨by first | omega | exact Nat.le_refl _⟩, ⟨by (with_reducible repeat (first | refine blk_drewN ?_ _ | refine blk_drew ?_ | refine blk_alloc ?_ _)); refine blk_far ?_ NB102_106.out _; (with_reducible repeat (first | refine blk_drewN ?_ _ | refine blk_drew ?_ | refine blk_alloc ?_ _)); refine blk_far ?_ NB102_106.out _; (with_reducible repeat (first | refine blk_drewN ?_ _ | refine blk_drew ?_ | refine blk_alloc ?_ _)); refine blk_far ?_ NB102_106.out _; (with_reducible repeat (first | refine blk_drewN ?_ _ | refine blk_drew ?_ | refine blk_alloc ?_ _)); refine blk_far ?_ NB102_106.out _; (with_reducible repeat (first | refine blk_drewN ?_ _ | refine blk_drew ?_ | refine blk_alloc ?_ _)); exact BK102.out⟩, ⟨by (with_reducible repeat (first | refine blk_drewN ?_ _ | refine blk_drew ?_ | refine blk_alloc ?_ _)); refine blk_far ?_ NB103_106.out _; (with_reducible repeat (first | refine blk_drewN ?_ _ | refine blk_drew ?_ | refine blk_alloc ?_ _)); refine blk_far ?_ NB103_106.out _; (with_reducible repeat (first | refine blk_drewN ?_ _ | refine blk_drew ?_ | refine blk_alloc ?_ _)); refine blk_far ?_ NB103_106.out _; (with_reducible repeat (first | refine blk_drewN ?_ _ | refine blk_drew ?_ | refine blk_alloc ?_ _)); refine blk_far ?_ NB103_106.out _; (with_reducible repeat (first | refine blk_drewN ?_ _ | refine blk_drew ?_ | refine blk_alloc ?_ _)); exact BK103.out⟩, ⟨by (with_reducible repeat (first | refine blk_drewN ?_ _ | refine blk_drew ?_ | refine blk_alloc ?_ _)); refine blk_far ?_ NB104_106.out _; (with_reducible repeat (first | refine blk_drewN ?_ _ | refine blk_drew ?_ | refine blk_alloc ?_ _)); refine blk_far ?_ NB104_106.out _; (with_reducible repeat (first | refine blk_drewN ?_ _ | refine blk_drew ?_ | refine blk_alloc ?_ _)); refine blk_far ?_ NB104_106.out _; (with_reducible repeat (first | refine blk_drewN ?_ _ | refine blk_drew ?_ | refine blk_alloc ?_ _)); refine blk_far ?_ NB104_106.out _; (with_reducible repeat (first | refine blk_drewN ?_ _ | refine blk_drew ?_ | refine blk_alloc ?_ _)); exact BK104.out⟩, ⟨by (with_reducible repeat (first | refine blk_drewN ?_ _ | refine blk_drew ?_ | refine blk_alloc ?_ _)); refine blk_far ?_ NB105_106.out _; (with_reducible repeat (first | refine blk_drewN ?_ _ | refine blk_drew ?_ | refine blk_alloc ?_ _)); refine blk_far ?_ NB105_106.out _; (with_reducible repeat (first | refine blk_drewN ?_ _ | refine blk_drew ?_ | refine blk_alloc ?_ _)); refine blk_far ?_ NB105_106.out _; (with_reducible repeat (first | refine blk_drewN ?_ _ | refine blk_drew ?_ | refine blk_alloc ?_ _)); refine blk_far ?_ NB105_106.out _; (with_reducible repeat (first | refine blk_drewN ?_ _ | refine blk_drew ?_ | refine blk_alloc ?_ _)); exact BK105.out⟩, ⟨by (with_reducible repeat (first | refine blk_drewN ?_ _ | refine blk_drew ?_ | refine blk_alloc ?_ _)); refine blk_put (cs := #[.int .i64 0, .bool false, .int .i64 a0_0, .int .i64 0]) ?_ 3 _ rfl; (with_reducible repeat (first | refine blk_drewN ?_ _ | refine blk_drew ?_ | refine blk_alloc ?_ _)); refine blk_put (cs := #[.int .i64 0, .bool false, .int .i64 0, .int .i64 0]) ?_ 2 _ rfl; (with_reducible repeat (first | refine blk_drewN ?_ _ | refine blk_drew ?_ | refine blk_alloc ?_ _)); refine blk_put (cs := #[.int .i64 0, .bool false, .int .i64 0, .int .i64 0]) ?_ 1 _ rfl; (with_reducible repeat (first | refine blk_drewN ?_ _ | refine blk_drew ?_ | refine blk_alloc ?_ _)); refine blk_put (cs := #[.int .i64 0, .bool false, .int .i64 0, .int .i64 0]) ?_ 0 _ rfl; (with_reducible repeat (first | refine blk_drewN ?_ _ | refine blk_drew ?_ | refine blk_alloc ?_ _)); exact BK106.out⟩, ⟨by repeat (first | (with_reducible first | exact HB.out | apply below_alloc | apply pw_below_drewN | apply below_drew1 | refine below_set ?_ GE102.out | refine below_set ?_ GE103.out | refine below_set ?_ GE104.out | refine below_set ?_ GE105.out | refine below_set ?_ GE106.out) | exact HB.out)⟩⟩
    · replace c24 := Bool.eq_false_iff.mpr c24
      subst c24
      have H1 : (ballot_Hear.j0 k a1 a2 true a0_0 a0_1 a0_2 a0_3 a3_0 a3_1 a3_2 0 false a0_0 a3_2) = some (r1, r2, r3, r4, r5, r6, r7, r8) := by rw [if_neg (show ¬ (false = true) by decide)] at H; exact H
      clear H
      have H := H1
      clear H1
      have H' := Aside0.mk H
      clear H
      go_wp2_with (first | ((with_reducible refine gate_callee (f := 22) rfl ?_); refine goesL_ (some 19) rfl rfl Try.func22 (by kernel_rfl) rfl #[.int .i64 a1, .int .i64 a2] rfl (by (try simp only [List.map_toArray, List.map_cons, List.map_nil]); first | done | rfl | (simp only [List.length_drop, List.length_take]; rfl)) ?_; (with_reducible refine (ballot_right.calls a1 a2 false _ A23.out).mono ?_); rintro e w' ⟨rfl, ⟨nd, rfl⟩⟩; refine ⟨_, rfl, ?_⟩))
      go_meet
      case rel => exact ⟨_, (true), (by first | rfl | (simp; done) | (simp [*]; done)), H', ⟨by first | omega | exact Nat.le_refl _⟩, ⟨by (with_reducible repeat (first | refine blk_drewN ?_ _ | refine blk_drew ?_ | refine blk_alloc ?_ _)); refine blk_far ?_ NB102_106.out _; (with_reducible repeat (first | refine blk_drewN ?_ _ | refine blk_drew ?_ | refine blk_alloc ?_ _)); refine blk_far ?_ NB102_106.out _; (with_reducible repeat (first | refine blk_drewN ?_ _ | refine blk_drew ?_ | refine blk_alloc ?_ _)); refine blk_far ?_ NB102_106.out _; (with_reducible repeat (first | refine blk_drewN ?_ _ | refine blk_drew ?_ | refine blk_alloc ?_ _)); refine blk_far ?_ NB102_106.out _; (with_reducible repeat (first | refine blk_drewN ?_ _ | refine blk_drew ?_ | refine blk_alloc ?_ _)); exact BK102.out⟩, ⟨by (with_reducible repeat (first | refine blk_drewN ?_ _ | refine blk_drew ?_ | refine blk_alloc ?_ _)); refine blk_far ?_ NB103_106.out _; (with_reducible repeat (first | refine blk_drewN ?_ _ | refine blk_drew ?_ | refine blk_alloc ?_ _)); refine blk_far ?_ NB103_106.out _; (with_reducible repeat (first | refine blk_drewN ?_ _ | refine blk_drew ?_ | refine blk_alloc ?_ _)); refine blk_far ?_ NB103_106.out _; (with_reducible repeat (first | refine blk_drewN ?_ _ | refine blk_drew ?_ | refine blk_alloc ?_ _)); refine blk_far ?_ NB103_106.out _; (with_reducible repeat (first | refine blk_drewN ?_ _ | refine blk_drew ?_ | refine blk_alloc ?_ _)); exact BK103.out⟩, ⟨by (with_reducible repeat (first | refine blk_drewN ?_ _ | refine blk_drew ?_ | refine blk_alloc ?_ _)); refine blk_far ?_ NB104_106.out _; (with_reducible repeat (first | refine blk_drewN ?_ _ | refine blk_drew ?_ | refine blk_alloc ?_ _)); refine blk_far ?_ NB104_106.out _; (with_reducible repeat (first | refine blk_drewN ?_ _ | refine blk_drew ?_ | refine blk_alloc ?_ _)); refine blk_far ?_ NB104_106.out _; (with_reducible repeat (first | refine blk_drewN ?_ _ | refine blk_drew ?_ | refine blk_alloc ?_ _)); refine blk_far ?_ NB104_106.out _; (with_reducible repeat (first | refine blk_drewN ?_ _ | refine blk_drew ?_ | refine blk_alloc ?_ _)); exact BK104.out⟩, ⟨by (with_reducible repeat (first | refine blk_drewN ?_ _ | refine blk_drew ?_ | refine blk_alloc ?_ _)); refine blk_far ?_ NB105_106.out _; (with_reducible repeat (first | refine blk_drewN ?_ _ | refine blk_drew ?_ | refine blk_alloc ?_ _)); refine blk_far ?_ NB105_106.out _; (with_reducible repeat (first | refine blk_drewN ?_ _ | refine blk_drew ?_ | refine blk_alloc ?_ _)); refine blk_far ?_ NB105_106.out _; (with_reducible repeat (first | refine blk_drewN ?_ _ | refine blk_drew ?_ | refine blk_alloc ?_ _)); refine blk_far ?_ NB105_106.out _; (with_reducible repeat (first | refine blk_drewN ?_ _ | refine blk_drew ?_ | refine blk_alloc ?_ _)); exact BK105.out⟩, ⟨by (with_reducible repeat (first | refine blk_drewN ?_ _ | refine blk_drew ?_ | refine blk_alloc ?_ _)); refine blk_put (cs := #[.int .i64 0, .bool false, .int .i64 a0_0, .int .i64 0]) ?_ 3 _ rfl; (with_reducible repeat (first | refine blk_drewN ?_ _ | refine blk_drew ?_ | refine blk_alloc ?_ _)); refine blk_put (cs := #[.int .i64 0, .bool false, .int .i64 0, .int .i64 0]) ?_ 2 _ rfl; (with_reducible repeat (first | refine blk_drewN ?_ _ | refine blk_drew ?_ | refine blk_alloc ?_ _)); refine blk_put (cs := #[.int .i64 0, .bool false, .int .i64 0, .int .i64 0]) ?_ 1 _ rfl; (with_reducible repeat (first | refine blk_drewN ?_ _ | refine blk_drew ?_ | refine blk_alloc ?_ _)); refine blk_put (cs := #[.int .i64 0, .bool false, .int .i64 0, .int .i64 0]) ?_ 0 _ rfl; (with_reducible repeat (first | refine blk_drewN ?_ _ | refine blk_drew ?_ | refine blk_alloc ?_ _)); exact BK106.out⟩, ⟨by repeat (first | (with_reducible first | exact HB.out | apply below_alloc | apply pw_below_drewN | apply below_drew1 | refine below_set ?_ GE102.out | refine below_set ?_ GE103.out | refine below_set ?_ GE104.out | refine below_set ?_ GE105.out | refine below_set ?_ GE106.out) | exact HB.out)⟩⟩
  case rest =>
    clear HC5
    try clear c1
    try clear c2
    try clear p2
    try clear c3
    try clear c4
    try clear c10
    try clear c11
    try clear c12
    try clear c14
    try clear c15
    try clear c18
    try clear c19
    try clear c20
    try clear c21
    try clear c22
    try clear c24
    try clear c25
    try clear c25b0
    try clear c26
    try clear c27
    try clear c28
    try clear c29
    try clear c31
    try clear c31b0
    try clear c32
    try clear c33
    try clear c34
    try clear c35
    try clear c37
    try clear c38
    try clear c39
    try clear c40
    try clear hcz13_0
    try clear hcz13_1
    try clear hcz13_2
    try clear hcz13_3
    try clear hcz16_0
    try clear hcz16_1
    try clear hcz16_2
    try clear hcz22_0
    try clear hcz22_1
    try clear hcz22_2
    try clear hcz22_3
    try clear hcz30_0
    try clear hcz30_1
    try clear hcz30_2
    try clear hcz36_0
    try clear hcz36_1
    try clear hcz36_2
    try clear hcz41_0
    try clear hcz41_1
    try clear hcz41_2
    try clear hfz13_0
    try clear hfz13_1
    try clear hfz13_2
    try clear hfz13_3
    try clear hfz16_0
    try clear hfz16_1
    try clear hfz16_2
    try clear hfz22_0
    try clear hfz22_1
    try clear hfz22_2
    try clear hfz22_3
    try clear hfz30_0
    try clear hfz30_1
    try clear hfz30_2
    try clear hfz36_0
    try clear hfz36_1
    try clear hfz36_2
    try clear hfz41_0
    try clear hfz41_1
    try clear hfz41_2
    obtain ⟨kq, x35_4, rfl, HA, HJ4, BK102, BK103, BK104, BK105, BK106, HB⟩ := hcut
    cases kq with
    | zero => exact absurd HA.out (by simp [ballot_Hear.j0])
    | succ kj4 =>
      have H := HA.out
      clear HA
      simp only [ballot_Hear.j0] at H
      by_cases c42 : x35_4 = true
      · subst c42
        have H1 : (some (a0_0, a0_1, a0_2, a0_3, 0, false, a0_0, a3_2)) = some (r1, r2, r3, r4, r5, r6, r7, r8) := by rw [if_pos rfl] at H; exact H
        clear H
        have H := H1
        clear H1
        simp only [Option.some.injEq, Prod.mk.injEq] at H
        obtain ⟨rfl, rfl, rfl, rfl, rfl, rfl, rfl, rfl⟩ := H
        try go_wp2
        have n0_ := Aside0.mk (blk_drew BK102.out)
        have n1_ := Aside0.mk (blk_drew BK103.out)
        have n2_ := Aside0.mk (blk_drew BK104.out)
        have n3_ := Aside0.mk (blk_drew BK105.out)
        have n4_ := Aside0.mk (blk_drew BK106.out)
        have n5_ := Aside0.mk (below_drew1 HB.out)
        clear BK102
        clear BK103
        clear BK104
        clear BK105
        clear BK106
        clear HB
        have BK102 := n0_
        have BK103 := n1_
        have BK104 := n2_
        have BK105 := n3_
        have BK106 := n4_
        have HB := n5_
        clear n0_ n1_ n2_ n3_ n4_ n5_
        refine start_ (n := 4) (S := fun w' => w'.cell? ⟨gb102, 0, none⟩ = some (.int .i64 a0_0) ∧ w'.cell? ⟨gb102, 1, none⟩ = some (.int .i64 a0_1) ∧ w'.cell? ⟨gb102, 2, none⟩ = some (.int .i64 a0_2) ∧ w'.cell? ⟨gb102, 3, none⟩ = some (.int .i64 a0_3) ∧ w'.cell? ⟨gb106, 0, none⟩ = some (.int .i64 0) ∧ w'.cell? ⟨gb106, 1, none⟩ = some (.bool false) ∧ w'.cell? ⟨gb106, 2, none⟩ = some (.int .i64 a0_0) ∧ w'.cell? ⟨gb106, 3, none⟩ = some (.int .i64 a3_2)) (ds := []) #[false, false, false, false] (by kernel_rfl) rfl rfl ⟨(blk_cell BK102.out 0).trans rfl, (blk_cell BK102.out 1).trans rfl, (blk_cell BK102.out 2).trans rfl, (blk_cell BK102.out 3).trans rfl, (blk_cell BK106.out 0).trans rfl, (blk_cell BK106.out 1).trans rfl, (blk_cell BK106.out 2).trans rfl, (blk_cell BK106.out 3).trans rfl⟩ (fun hHeld => ?_)
        generalize wc.drew = w43 at BK102 BK103 BK104 BK105 BK106 HB hHeld ⊢
        refine take_ (i := 0) (N := some 36) (v := ?_) (a' := ?_) #[true, false, false, false] rfl rfl (by kernel_rfl) (fun _ _ _ h => h) (Or.inl ⟨by rfl, ?_⟩) hHeld ?_ ?_
        rotate_left
        · rintro w' ⟨s0, s1, s2, s3, s4, s5, s6, s7⟩
          go_simp
          with_reducible rfl
        rotate_left
        · simp only [Act.put, List.setIfInBounds_toArray, List.set_cons_zero, List.set_cons_succ, i64_w, i32_w]
          rfl
        refine take_ (i := 1) (N := some 37) (v := ?_) (a' := ?_) #[true, true, false, false] rfl rfl (by kernel_rfl) (fun _ _ _ h => h) (Or.inl ⟨by rfl, ?_⟩) hHeld ?_ ?_
        rotate_left
        · rintro w' ⟨s0, s1, s2, s3, s4, s5, s6, s7⟩
          go_simp
          with_reducible rfl
        rotate_left
        · simp only [Act.put, List.setIfInBounds_toArray, List.set_cons_zero, List.set_cons_succ, i64_w, i32_w]
          rfl
        refine one_ (i := 2) (N := none) #[true, true, true, false] rfl rfl (by kernel_rfl) (by decide) (fun K hK => ?_)
        have hs44 : w43.cell? ⟨gb104, 0, none⟩ = some (.int .i64 0) := (blk_cell BK104.out 0).trans rfl
        have hfs44 := blk_frozen BK104.out 0
        have hns44_0 := NB102_104.out
        have hns44_1 := NB103_104.out
        have hns44_3 := NB105_104.out
        have hns44_4 := NB106_104.out
        have hms44_0 := NB104_102.out
        have hms44_1 := NB104_103.out
        have hms44_3 := NB104_105.out
        have hms44_4 := NB104_106.out
        have hs45 : w43.cell? ⟨gb104, 1, none⟩ = some (.int .i64 0) := (blk_cell BK104.out 1).trans rfl
        have hfs45 := blk_frozen BK104.out 1
        have hns45_0 := NB102_104.out
        have hns45_1 := NB103_104.out
        have hns45_3 := NB105_104.out
        have hns45_4 := NB106_104.out
        have hms45_0 := NB104_102.out
        have hms45_1 := NB104_103.out
        have hms45_3 := NB104_105.out
        have hms45_4 := NB104_106.out
        have hs46 : w43.cell? ⟨gb104, 2, none⟩ = some (.int .i64 0) := (blk_cell BK104.out 2).trans rfl
        have hfs46 := blk_frozen BK104.out 2
        have hns46_0 := NB102_104.out
        have hns46_1 := NB103_104.out
        have hns46_3 := NB105_104.out
        have hns46_4 := NB106_104.out
        have hms46_0 := NB104_102.out
        have hms46_1 := NB104_103.out
        have hms46_3 := NB104_105.out
        have hms46_4 := NB104_106.out
        have hs47 : w43.cell? ⟨gb104, 3, none⟩ = some (.int .i64 0) := (blk_cell BK104.out 3).trans rfl
        have hfs47 := blk_frozen BK104.out 3
        have hns47_0 := NB102_104.out
        have hns47_1 := NB103_104.out
        have hns47_3 := NB105_104.out
        have hns47_4 := NB106_104.out
        have hms47_0 := NB104_102.out
        have hms47_1 := NB104_103.out
        have hms47_3 := NB104_105.out
        have hms47_4 := NB104_106.out
        refine skip_ (w1 := ?_) (by rfl) rfl ?_ ?_
        rotate_left
        · go_simp
          rfl
        refine hK.out _ _ ⟨((cell_far (p := ⟨gb104, _, none⟩) NB102_104.out _).trans (((cell_far (p := ⟨gb104, _, none⟩) NB102_104.out _).trans (((cell_far (p := ⟨gb104, _, none⟩) NB102_104.out _).trans (((cell_far (p := ⟨gb104, _, none⟩) NB102_104.out _).trans (hHeld.1)))))))), ((cell_far (p := ⟨gb104, _, none⟩) NB102_104.out _).trans (((cell_far (p := ⟨gb104, _, none⟩) NB102_104.out _).trans (((cell_far (p := ⟨gb104, _, none⟩) NB102_104.out _).trans (((cell_far (p := ⟨gb104, _, none⟩) NB102_104.out _).trans (hHeld.2.1)))))))), ((cell_far (p := ⟨gb104, _, none⟩) NB102_104.out _).trans (((cell_far (p := ⟨gb104, _, none⟩) NB102_104.out _).trans (((cell_far (p := ⟨gb104, _, none⟩) NB102_104.out _).trans (((cell_far (p := ⟨gb104, _, none⟩) NB102_104.out _).trans (hHeld.2.2.1)))))))), ((cell_far (p := ⟨gb104, _, none⟩) NB102_104.out _).trans (((cell_far (p := ⟨gb104, _, none⟩) NB102_104.out _).trans (((cell_far (p := ⟨gb104, _, none⟩) NB102_104.out _).trans (((cell_far (p := ⟨gb104, _, none⟩) NB102_104.out _).trans (hHeld.2.2.2.1)))))))), ((cell_far (p := ⟨gb104, _, none⟩) NB106_104.out _).trans (((cell_far (p := ⟨gb104, _, none⟩) NB106_104.out _).trans (((cell_far (p := ⟨gb104, _, none⟩) NB106_104.out _).trans (((cell_far (p := ⟨gb104, _, none⟩) NB106_104.out _).trans (hHeld.2.2.2.2.1)))))))), ((cell_far (p := ⟨gb104, _, none⟩) NB106_104.out _).trans (((cell_far (p := ⟨gb104, _, none⟩) NB106_104.out _).trans (((cell_far (p := ⟨gb104, _, none⟩) NB106_104.out _).trans (((cell_far (p := ⟨gb104, _, none⟩) NB106_104.out _).trans (hHeld.2.2.2.2.2.1)))))))), ((cell_far (p := ⟨gb104, _, none⟩) NB106_104.out _).trans (((cell_far (p := ⟨gb104, _, none⟩) NB106_104.out _).trans (((cell_far (p := ⟨gb104, _, none⟩) NB106_104.out _).trans (((cell_far (p := ⟨gb104, _, none⟩) NB106_104.out _).trans (hHeld.2.2.2.2.2.2.1)))))))), ((cell_far (p := ⟨gb104, _, none⟩) NB106_104.out _).trans (((cell_far (p := ⟨gb104, _, none⟩) NB106_104.out _).trans (((cell_far (p := ⟨gb104, _, none⟩) NB106_104.out _).trans (((cell_far (p := ⟨gb104, _, none⟩) NB106_104.out _).trans (hHeld.2.2.2.2.2.2.2))))))))⟩ (fun hHeld => ?_)
        clear hK K
        refine one_ (i := 3) (N := none) #[true, true, true, true] rfl rfl (by kernel_rfl) (by decide) (fun K hK => ?_)
        have hs48 : w43.cell? ⟨gb105, 0, none⟩ = some (.int .i64 0) := (blk_cell BK105.out 0).trans rfl
        have hfs48 := blk_frozen BK105.out 0
        have hns48_0 := NB102_105.out
        have hns48_1 := NB103_105.out
        have hns48_2 := NB104_105.out
        have hns48_4 := NB106_105.out
        have hms48_0 := NB105_102.out
        have hms48_1 := NB105_103.out
        have hms48_2 := NB105_104.out
        have hms48_4 := NB105_106.out
        have hs49 : w43.cell? ⟨gb105, 1, none⟩ = some (.bool false) := (blk_cell BK105.out 1).trans rfl
        have hfs49 := blk_frozen BK105.out 1
        have hns49_0 := NB102_105.out
        have hns49_1 := NB103_105.out
        have hns49_2 := NB104_105.out
        have hns49_4 := NB106_105.out
        have hms49_0 := NB105_102.out
        have hms49_1 := NB105_103.out
        have hms49_2 := NB105_104.out
        have hms49_4 := NB105_106.out
        have hs50 : w43.cell? ⟨gb105, 2, none⟩ = some (.int .i64 0) := (blk_cell BK105.out 2).trans rfl
        have hfs50 := blk_frozen BK105.out 2
        have hns50_0 := NB102_105.out
        have hns50_1 := NB103_105.out
        have hns50_2 := NB104_105.out
        have hns50_4 := NB106_105.out
        have hms50_0 := NB105_102.out
        have hms50_1 := NB105_103.out
        have hms50_2 := NB105_104.out
        have hms50_4 := NB105_106.out
        have hs51 : w43.cell? ⟨gb105, 3, none⟩ = some (.int .i64 0) := (blk_cell BK105.out 3).trans rfl
        have hfs51 := blk_frozen BK105.out 3
        have hns51_0 := NB102_105.out
        have hns51_1 := NB103_105.out
        have hns51_2 := NB104_105.out
        have hns51_4 := NB106_105.out
        have hms51_0 := NB105_102.out
        have hms51_1 := NB105_103.out
        have hms51_2 := NB105_104.out
        have hms51_4 := NB105_106.out
        refine skip_ (w1 := ?_) (by rfl) rfl ?_ ?_
        rotate_left
        · go_simp
          rfl
        refine hK.out _ _ ⟨((cell_far (p := ⟨gb105, _, none⟩) NB102_105.out _).trans (((cell_far (p := ⟨gb105, _, none⟩) NB102_105.out _).trans (((cell_far (p := ⟨gb105, _, none⟩) NB102_105.out _).trans (((cell_far (p := ⟨gb105, _, none⟩) NB102_105.out _).trans (hHeld.1)))))))), ((cell_far (p := ⟨gb105, _, none⟩) NB102_105.out _).trans (((cell_far (p := ⟨gb105, _, none⟩) NB102_105.out _).trans (((cell_far (p := ⟨gb105, _, none⟩) NB102_105.out _).trans (((cell_far (p := ⟨gb105, _, none⟩) NB102_105.out _).trans (hHeld.2.1)))))))), ((cell_far (p := ⟨gb105, _, none⟩) NB102_105.out _).trans (((cell_far (p := ⟨gb105, _, none⟩) NB102_105.out _).trans (((cell_far (p := ⟨gb105, _, none⟩) NB102_105.out _).trans (((cell_far (p := ⟨gb105, _, none⟩) NB102_105.out _).trans (hHeld.2.2.1)))))))), ((cell_far (p := ⟨gb105, _, none⟩) NB102_105.out _).trans (((cell_far (p := ⟨gb105, _, none⟩) NB102_105.out _).trans (((cell_far (p := ⟨gb105, _, none⟩) NB102_105.out _).trans (((cell_far (p := ⟨gb105, _, none⟩) NB102_105.out _).trans (hHeld.2.2.2.1)))))))), ((cell_far (p := ⟨gb105, _, none⟩) NB106_105.out _).trans (((cell_far (p := ⟨gb105, _, none⟩) NB106_105.out _).trans (((cell_far (p := ⟨gb105, _, none⟩) NB106_105.out _).trans (((cell_far (p := ⟨gb105, _, none⟩) NB106_105.out _).trans (hHeld.2.2.2.2.1)))))))), ((cell_far (p := ⟨gb105, _, none⟩) NB106_105.out _).trans (((cell_far (p := ⟨gb105, _, none⟩) NB106_105.out _).trans (((cell_far (p := ⟨gb105, _, none⟩) NB106_105.out _).trans (((cell_far (p := ⟨gb105, _, none⟩) NB106_105.out _).trans (hHeld.2.2.2.2.2.1)))))))), ((cell_far (p := ⟨gb105, _, none⟩) NB106_105.out _).trans (((cell_far (p := ⟨gb105, _, none⟩) NB106_105.out _).trans (((cell_far (p := ⟨gb105, _, none⟩) NB106_105.out _).trans (((cell_far (p := ⟨gb105, _, none⟩) NB106_105.out _).trans (hHeld.2.2.2.2.2.2.1)))))))), ((cell_far (p := ⟨gb105, _, none⟩) NB106_105.out _).trans (((cell_far (p := ⟨gb105, _, none⟩) NB106_105.out _).trans (((cell_far (p := ⟨gb105, _, none⟩) NB106_105.out _).trans (((cell_far (p := ⟨gb105, _, none⟩) NB106_105.out _).trans (hHeld.2.2.2.2.2.2.2))))))))⟩ (fun hHeld => ?_)
        clear hK K
        refine done_ (by kernel_rfl) ?_
        try go_wp2
        refine bodyPost_ret (results_cc rfl _ _ gb104 gb105 25 32 #[.int .i64 a0_0, .int .i64 a0_1, .int .i64 a0_2, .int .i64 a0_3] #[.int .i64 0, .bool false, .int .i64 a0_0, .int .i64 a3_2] (0, 0) (0, 0) _ _ rfl (by (with_reducible repeat (first | refine blk_drewN ?_ _ | refine blk_drew ?_ | refine blk_alloc ?_ _)); refine blk_far ?_ NB104_105.out _; (with_reducible repeat (first | refine blk_drewN ?_ _ | refine blk_drew ?_ | refine blk_alloc ?_ _)); refine blk_far ?_ NB104_105.out _; (with_reducible repeat (first | refine blk_drewN ?_ _ | refine blk_drew ?_ | refine blk_alloc ?_ _)); refine blk_far ?_ NB104_105.out _; (with_reducible repeat (first | refine blk_drewN ?_ _ | refine blk_drew ?_ | refine blk_alloc ?_ _)); refine blk_far ?_ NB104_105.out _; (with_reducible repeat (first | refine blk_drewN ?_ _ | refine blk_drew ?_ | refine blk_alloc ?_ _)); refine blk_put (cs := #[.int .i64 a0_0, .int .i64 a0_1, .int .i64 a0_2, .int .i64 0]) ?_ 3 _ rfl; (with_reducible repeat (first | refine blk_drewN ?_ _ | refine blk_drew ?_ | refine blk_alloc ?_ _)); refine blk_put (cs := #[.int .i64 a0_0, .int .i64 a0_1, .int .i64 0, .int .i64 0]) ?_ 2 _ rfl; (with_reducible repeat (first | refine blk_drewN ?_ _ | refine blk_drew ?_ | refine blk_alloc ?_ _)); refine blk_put (cs := #[.int .i64 a0_0, .int .i64 0, .int .i64 0, .int .i64 0]) ?_ 1 _ rfl; (with_reducible repeat (first | refine blk_drewN ?_ _ | refine blk_drew ?_ | refine blk_alloc ?_ _)); refine blk_put (cs := #[.int .i64 0, .int .i64 0, .int .i64 0, .int .i64 0]) ?_ 0 _ rfl; (with_reducible repeat (first | refine blk_drewN ?_ _ | refine blk_drew ?_ | refine blk_alloc ?_ _)); exact BK104.out) Try.underlying25 rfl (by kernel_rfl) rfl (by (with_reducible repeat (first | refine blk_drewN ?_ _ | refine blk_drew ?_ | refine blk_alloc ?_ _)); refine blk_put (cs := #[.int .i64 0, .bool false, .int .i64 a0_0, .int .i64 0]) ?_ 3 _ rfl; (with_reducible repeat (first | refine blk_drewN ?_ _ | refine blk_drew ?_ | refine blk_alloc ?_ _)); refine blk_put (cs := #[.int .i64 0, .bool false, .int .i64 0, .int .i64 0]) ?_ 2 _ rfl; (with_reducible repeat (first | refine blk_drewN ?_ _ | refine blk_drew ?_ | refine blk_alloc ?_ _)); refine blk_put (cs := #[.int .i64 0, .bool false, .int .i64 0, .int .i64 0]) ?_ 1 _ rfl; (with_reducible repeat (first | refine blk_drewN ?_ _ | refine blk_drew ?_ | refine blk_alloc ?_ _)); refine blk_put (cs := #[.int .i64 0, .bool false, .int .i64 0, .int .i64 0]) ?_ 0 _ rfl; (with_reducible repeat (first | refine blk_drewN ?_ _ | refine blk_drew ?_ | refine blk_alloc ?_ _)); refine blk_far ?_ NB105_104.out _; (with_reducible repeat (first | refine blk_drewN ?_ _ | refine blk_drew ?_ | refine blk_alloc ?_ _)); refine blk_far ?_ NB105_104.out _; (with_reducible repeat (first | refine blk_drewN ?_ _ | refine blk_drew ?_ | refine blk_alloc ?_ _)); refine blk_far ?_ NB105_104.out _; (with_reducible repeat (first | refine blk_drewN ?_ _ | refine blk_drew ?_ | refine blk_alloc ?_ _)); refine blk_far ?_ NB105_104.out _; (with_reducible repeat (first | refine blk_drewN ?_ _ | refine blk_drew ?_ | refine blk_alloc ?_ _)); exact BK105.out) Try.underlying32 rfl (by kernel_rfl)) rfl ?_
        exact ⟨by first | rfl | (simp [errW_none, errW_some] <;> rfl) | (simp [*, errW_none, errW_some] <;> rfl), by repeat (first | (with_reducible first | exact HB.out | apply below_alloc | apply pw_below_drewN | apply below_drew1 | refine below_set ?_ GE102.out | refine below_set ?_ GE103.out | refine below_set ?_ GE104.out | refine below_set ?_ GE105.out | refine below_set ?_ GE106.out) | exact HB.out)⟩
      · replace c42 := Bool.eq_false_iff.mpr c42
        subst c42
        have H1 : (if (a3_1 == a0_0 && (a3_0 == a0_1)) = true then (some (a3_1, a3_0, wrap64 (a1 + a2), mx a0_3 a3_2, 0, true, a3_1, a3_2)) else (if a1 < a0_2 then (some (a0_0, a0_1, a0_2, a0_3, 0, false, a0_0, a3_2)) else (if a3_1 ≤ a0_0 then (some (a0_0, a0_1, a0_2, a0_3, 0, false, a0_0, a3_2)) else (some (a3_1, a3_0, wrap64 (a1 + a2), a3_2, 0, true, a3_1, a3_2))))) = some (r1, r2, r3, r4, r5, r6, r7, r8) := by rw [if_neg (show ¬ (false = true) by decide)] at H; exact H
        clear H
        have H := H1
        clear H1
        by_cases c52 : (a3_1 == a0_0 && (a3_0 == a0_1)) = true
        · rw [if_pos c52] at H
          have c52b0 : (a3_1 == a0_0 && (a3_0 == a0_1)) = true := c52
          (try (have c52b1 : decide (a3_1 = a0_0 && (a3_0 == a0_1)) = true := by simpa using c52))
          (try (have c52b2 : (a3_1 == a0_0 && (a3_0 == a0_1)) = true := by simpa using c52))
          clear c52
          obtain ⟨ji53, hji53⟩ : ∃ j_ : Int, (mx a0_3 a3_2) = j_ := ⟨_, rfl⟩
          replace H : (some (a3_1, a3_0, wrap64 (a1 + a2), ji53, 0, true, a3_1, a3_2)) = some (r1, r2, r3, r4, r5, r6, r7, r8) := by first | (rw [hji53] at H; exact H) | (simp only [hji53] at H ⊢; exact H)
          have hji53_ : (if a0_3 < a3_2 then a3_2 else a0_3) = ji53 := hji53
          simp only [Option.some.injEq, Prod.mk.injEq] at H
          obtain ⟨rfl, rfl, rfl, rfl, rfl, rfl, rfl, rfl⟩ := H
          have hnb54 := NB103_102.out
          have hnc54 := NB102_103.out
          have hnb55 := NB103_104.out
          have hnc55 := NB104_103.out
          have hnb56 := NB103_105.out
          have hnc56 := NB105_103.out
          have hnb57 := NB103_106.out
          have hnc57 := NB106_103.out
          have hcz58_0 : wc.cell? ⟨gb103, 0, none⟩ = some (.int .i64 a3_0) := (blk_cell BK103.out 0).trans rfl
          have hcz58_1 : wc.cell? ⟨gb103, 1, none⟩ = some (.int .i64 a3_1) := (blk_cell BK103.out 1).trans rfl
          have hcz58_2 : wc.cell? ⟨gb103, 2, none⟩ = some (.int .i64 a3_2) := (blk_cell BK103.out 2).trans rfl
          have hfz58_0 := blk_frozen BK103.out 0
          have hfz58_1 := blk_frozen BK103.out 1
          have hfz58_2 := blk_frozen BK103.out 2
          have hnb59 := NB102_104.out
          have hnc59 := NB104_102.out
          have hnb60 := NB102_105.out
          have hnc60 := NB105_102.out
          have hnb61 := NB102_106.out
          have hnc61 := NB106_102.out
          have hcz62_0 : wc.cell? ⟨gb102, 0, none⟩ = some (.int .i64 a0_0) := (blk_cell BK102.out 0).trans rfl
          have hcz62_1 : wc.cell? ⟨gb102, 1, none⟩ = some (.int .i64 a0_1) := (blk_cell BK102.out 1).trans rfl
          have hcz62_2 : wc.cell? ⟨gb102, 2, none⟩ = some (.int .i64 a0_2) := (blk_cell BK102.out 2).trans rfl
          have hcz62_3 : wc.cell? ⟨gb102, 3, none⟩ = some (.int .i64 a0_3) := (blk_cell BK102.out 3).trans rfl
          have hfz62_0 := blk_frozen BK102.out 0
          have hfz62_1 := blk_frozen BK102.out 1
          have hfz62_2 := blk_frozen BK102.out 2
          have hfz62_3 := blk_frozen BK102.out 3
          try go_wp2_with (first | ((with_reducible refine gate_dst (N := 11) rfl ?_); refine box_event ?hg (N := 11) ?hd (cs := #[.int .i64 0, .int .i64 0, .int .i64 0, .int .i64 0]) (t := 25) ?hr ?_; (case hd => rfl); (case hg => rfl); (case hr => first | (go_simp; done) | (go_simp; rfl)); intro gb108 hg w63 hbox hb; have n0_ := Aside0.mk (blk_below (g := gb102) (o := .cells #[.int .i64 a0_0, .int .i64 a0_1, .int .i64 a0_2, .int .i64 a0_3] 25 (0, 0)) (by (with_reducible repeat (first | refine blk_drewN ?_ _ | refine blk_drew ?_ | refine blk_alloc ?_ _)); exact BK102.out) hb); have n1_ := Aside0.mk (blk_below (g := gb103) (o := .cells #[.int .i64 a3_0, .int .i64 a3_1, .int .i64 a3_2] 28 (0, 0)) (by (with_reducible repeat (first | refine blk_drewN ?_ _ | refine blk_drew ?_ | refine blk_alloc ?_ _)); exact BK103.out) hb); have n2_ := Aside0.mk (blk_below (g := gb104) (o := .cells #[.int .i64 0, .int .i64 0, .int .i64 0, .int .i64 0] 25 (0, 0)) (by (with_reducible repeat (first | refine blk_drewN ?_ _ | refine blk_drew ?_ | refine blk_alloc ?_ _)); exact BK104.out) hb); have n3_ := Aside0.mk (blk_below (g := gb105) (o := .cells #[.int .i64 0, .bool false, .int .i64 0, .int .i64 0] 32 (0, 0)) (by (with_reducible repeat (first | refine blk_drewN ?_ _ | refine blk_drew ?_ | refine blk_alloc ?_ _)); exact BK105.out) hb); have n4_ := Aside0.mk (blk_below (g := gb106) (o := .cells #[.int .i64 0, .bool false, .int .i64 a0_0, .int .i64 a3_2] 32 (0, 0)) (by (with_reducible repeat (first | refine blk_drewN ?_ _ | refine blk_drew ?_ | refine blk_alloc ?_ _)); exact BK106.out) hb); have n5_ := Aside0.mk (below_step (by repeat (first | (with_reducible first | exact HB.out | apply below_alloc | apply pw_below_drewN | apply below_drew1 | refine below_set ?_ GE102.out | refine below_set ?_ GE103.out | refine below_set ?_ GE104.out | refine below_set ?_ GE105.out | refine below_set ?_ GE106.out) | exact HB.out)) hb); have n6_ := Aside0.mk (hbox); have n7_ := Aside0.mk ((by rw [hg]; exact (below_size (by repeat (first | (with_reducible first | exact HB.out | apply below_alloc | apply pw_below_drewN | apply below_drew1 | refine below_set ?_ GE102.out | refine below_set ?_ GE103.out | refine below_set ?_ GE104.out | refine below_set ?_ GE105.out | refine below_set ?_ GE106.out) | exact HB.out))) : w.heap.size ≤ gb108)); have n8_ := Aside0.mk ((by rw [hg]; exact (below_size (by repeat (first | (with_reducible first | exact HB.out | apply below_alloc | apply pw_below_drewN | apply below_drew1 | refine below_set ?_ GE102.out | refine below_set ?_ GE103.out | refine below_set ?_ GE104.out | refine below_set ?_ GE105.out | refine below_set ?_ GE106.out) | exact HB.out))) : w.heap.size ≤ gb108)); have n9_ := Aside0.mk ((by rw [hg]; exact Nat.ne_of_lt (blk_lt (g := gb102) (o := .cells #[.int .i64 a0_0, .int .i64 a0_1, .int .i64 a0_2, .int .i64 a0_3] 25 (0, 0)) (by (with_reducible repeat (first | refine blk_drewN ?_ _ | refine blk_drew ?_ | refine blk_alloc ?_ _)); exact BK102.out)) : gb102 ≠ gb108)); have n10_ := Aside0.mk ((by rw [hg]; exact Nat.ne_of_gt (blk_lt (g := gb102) (o := .cells #[.int .i64 a0_0, .int .i64 a0_1, .int .i64 a0_2, .int .i64 a0_3] 25 (0, 0)) (by (with_reducible repeat (first | refine blk_drewN ?_ _ | refine blk_drew ?_ | refine blk_alloc ?_ _)); exact BK102.out)) : gb108 ≠ gb102)); have n11_ := Aside0.mk ((by rw [hg]; exact Nat.ne_of_lt (blk_lt (g := gb103) (o := .cells #[.int .i64 a3_0, .int .i64 a3_1, .int .i64 a3_2] 28 (0, 0)) (by (with_reducible repeat (first | refine blk_drewN ?_ _ | refine blk_drew ?_ | refine blk_alloc ?_ _)); exact BK103.out)) : gb103 ≠ gb108)); have n12_ := Aside0.mk ((by rw [hg]; exact Nat.ne_of_gt (blk_lt (g := gb103) (o := .cells #[.int .i64 a3_0, .int .i64 a3_1, .int .i64 a3_2] 28 (0, 0)) (by (with_reducible repeat (first | refine blk_drewN ?_ _ | refine blk_drew ?_ | refine blk_alloc ?_ _)); exact BK103.out)) : gb108 ≠ gb103)); have n13_ := Aside0.mk ((by rw [hg]; exact Nat.ne_of_lt (blk_lt (g := gb104) (o := .cells #[.int .i64 0, .int .i64 0, .int .i64 0, .int .i64 0] 25 (0, 0)) (by (with_reducible repeat (first | refine blk_drewN ?_ _ | refine blk_drew ?_ | refine blk_alloc ?_ _)); exact BK104.out)) : gb104 ≠ gb108)); have n14_ := Aside0.mk ((by rw [hg]; exact Nat.ne_of_gt (blk_lt (g := gb104) (o := .cells #[.int .i64 0, .int .i64 0, .int .i64 0, .int .i64 0] 25 (0, 0)) (by (with_reducible repeat (first | refine blk_drewN ?_ _ | refine blk_drew ?_ | refine blk_alloc ?_ _)); exact BK104.out)) : gb108 ≠ gb104)); have n15_ := Aside0.mk ((by rw [hg]; exact Nat.ne_of_lt (blk_lt (g := gb105) (o := .cells #[.int .i64 0, .bool false, .int .i64 0, .int .i64 0] 32 (0, 0)) (by (with_reducible repeat (first | refine blk_drewN ?_ _ | refine blk_drew ?_ | refine blk_alloc ?_ _)); exact BK105.out)) : gb105 ≠ gb108)); have n16_ := Aside0.mk ((by rw [hg]; exact Nat.ne_of_gt (blk_lt (g := gb105) (o := .cells #[.int .i64 0, .bool false, .int .i64 0, .int .i64 0] 32 (0, 0)) (by (with_reducible repeat (first | refine blk_drewN ?_ _ | refine blk_drew ?_ | refine blk_alloc ?_ _)); exact BK105.out)) : gb108 ≠ gb105)); have n17_ := Aside0.mk ((by rw [hg]; exact Nat.ne_of_lt (blk_lt (g := gb106) (o := .cells #[.int .i64 0, .bool false, .int .i64 a0_0, .int .i64 a3_2] 32 (0, 0)) (by (with_reducible repeat (first | refine blk_drewN ?_ _ | refine blk_drew ?_ | refine blk_alloc ?_ _)); exact BK106.out)) : gb106 ≠ gb108)); have n18_ := Aside0.mk ((by rw [hg]; exact Nat.ne_of_gt (blk_lt (g := gb106) (o := .cells #[.int .i64 0, .bool false, .int .i64 a0_0, .int .i64 a3_2] 32 (0, 0)) (by (with_reducible repeat (first | refine blk_drewN ?_ _ | refine blk_drew ?_ | refine blk_alloc ?_ _)); exact BK106.out)) : gb108 ≠ gb106)); clear BK102; clear BK103; clear BK104; clear BK105; clear BK106; clear HB; have BK102 := n0_; have BK103 := n1_; have BK104 := n2_; have BK105 := n3_; have BK106 := n4_; have HB := n5_; have BK108 := n6_; have GW108 := n7_; have GE108 := n8_; have NB102_108 := n9_; have NB108_102 := n10_; have NB103_108 := n11_; have NB108_103 := n12_; have NB104_108 := n13_; have NB108_104 := n14_; have NB105_108 := n15_; have NB108_105 := n16_; have NB106_108 := n17_; have NB108_106 := n18_; clear n0_ n1_ n2_ n3_ n4_ n5_ n6_ n7_ n8_ n9_ n10_ n11_ n12_ n13_ n14_ n15_ n16_ n17_ n18_; clear hb hbox hg; have hnb64 := NB108_102.out; have hnc64 := NB102_108.out; have hnb65 := NB108_103.out; have hnc65 := NB103_108.out; have hnb66 := NB108_104.out; have hnc66 := NB104_108.out; have hnb67 := NB108_105.out; have hnc67 := NB105_108.out; have hnb68 := NB108_106.out; have hnc68 := NB106_108.out; have hcz69_0 : w63.cell? ⟨gb108, 0, none⟩ = some (.int .i64 0) := (blk_cell BK108.out 0).trans rfl; have hcz69_1 : w63.cell? ⟨gb108, 1, none⟩ = some (.int .i64 0) := (blk_cell BK108.out 1).trans rfl; have hcz69_2 : w63.cell? ⟨gb108, 2, none⟩ = some (.int .i64 0) := (blk_cell BK108.out 2).trans rfl; have hcz69_3 : w63.cell? ⟨gb108, 3, none⟩ = some (.int .i64 0) := (blk_cell BK108.out 3).trans rfl; have hfz69_0 := blk_frozen BK108.out 0; have hfz69_1 := blk_frozen BK108.out 1; have hfz69_2 := blk_frozen BK108.out 2; have hfz69_3 := blk_frozen BK108.out 3; have hcz70_0 : w63.cell? ⟨gb102, 0, none⟩ = some (.int .i64 a0_0) := (blk_cell BK102.out 0).trans rfl; have hcz70_1 : w63.cell? ⟨gb102, 1, none⟩ = some (.int .i64 a0_1) := (blk_cell BK102.out 1).trans rfl; have hcz70_2 : w63.cell? ⟨gb102, 2, none⟩ = some (.int .i64 a0_2) := (blk_cell BK102.out 2).trans rfl; have hcz70_3 : w63.cell? ⟨gb102, 3, none⟩ = some (.int .i64 a0_3) := (blk_cell BK102.out 3).trans rfl; have hfz70_0 := blk_frozen BK102.out 0; have hfz70_1 := blk_frozen BK102.out 1; have hfz70_2 := blk_frozen BK102.out 2; have hfz70_3 := blk_frozen BK102.out 3; have hcz71_0 : w63.cell? ⟨gb103, 0, none⟩ = some (.int .i64 a3_0) := (blk_cell BK103.out 0).trans rfl; have hcz71_1 : w63.cell? ⟨gb103, 1, none⟩ = some (.int .i64 a3_1) := (blk_cell BK103.out 1).trans rfl; have hcz71_2 : w63.cell? ⟨gb103, 2, none⟩ = some (.int .i64 a3_2) := (blk_cell BK103.out 2).trans rfl; have hfz71_0 := blk_frozen BK103.out 0; have hfz71_1 := blk_frozen BK103.out 1; have hfz71_2 := blk_frozen BK103.out 2))
          have n0_ : Aside0 (((((((w63.setCell ⟨gb108, 0, none⟩ (.int .i64 a3_1)).setCell ⟨gb108, 1, none⟩ (.int .i64 a3_0)).setCell ⟨gb108, 2, none⟩ (.int .i64 a0_2)).setCell ⟨gb108, 3, none⟩ (.int .i64 a0_3)).setCell ⟨gb108, 3, none⟩ (.int .i64 ji53)).setCell ⟨gb108, 2, none⟩ (.int .i64 (wrap64 (a1 + a2)))).heap[gb102]? = some (.cells #[.int .i64 a0_0, .int .i64 a0_1, .int .i64 a0_2, .int .i64 a0_3] 25 (0, 0))) := ⟨by (with_reducible repeat (first | refine blk_drewN ?_ _ | refine blk_drew ?_ | refine blk_alloc ?_ _)); refine blk_far ?_ NB102_108.out _; (with_reducible repeat (first | refine blk_drewN ?_ _ | refine blk_drew ?_ | refine blk_alloc ?_ _)); refine blk_far ?_ NB102_108.out _; (with_reducible repeat (first | refine blk_drewN ?_ _ | refine blk_drew ?_ | refine blk_alloc ?_ _)); refine blk_far ?_ NB102_108.out _; (with_reducible repeat (first | refine blk_drewN ?_ _ | refine blk_drew ?_ | refine blk_alloc ?_ _)); refine blk_far ?_ NB102_108.out _; (with_reducible repeat (first | refine blk_drewN ?_ _ | refine blk_drew ?_ | refine blk_alloc ?_ _)); refine blk_far ?_ NB102_108.out _; (with_reducible repeat (first | refine blk_drewN ?_ _ | refine blk_drew ?_ | refine blk_alloc ?_ _)); refine blk_far ?_ NB102_108.out _; (with_reducible repeat (first | refine blk_drewN ?_ _ | refine blk_drew ?_ | refine blk_alloc ?_ _)); exact BK102.out⟩
          have n1_ : Aside0 (((((((w63.setCell ⟨gb108, 0, none⟩ (.int .i64 a3_1)).setCell ⟨gb108, 1, none⟩ (.int .i64 a3_0)).setCell ⟨gb108, 2, none⟩ (.int .i64 a0_2)).setCell ⟨gb108, 3, none⟩ (.int .i64 a0_3)).setCell ⟨gb108, 3, none⟩ (.int .i64 ji53)).setCell ⟨gb108, 2, none⟩ (.int .i64 (wrap64 (a1 + a2)))).heap[gb103]? = some (.cells #[.int .i64 a3_0, .int .i64 a3_1, .int .i64 a3_2] 28 (0, 0))) := ⟨by (with_reducible repeat (first | refine blk_drewN ?_ _ | refine blk_drew ?_ | refine blk_alloc ?_ _)); refine blk_far ?_ NB103_108.out _; (with_reducible repeat (first | refine blk_drewN ?_ _ | refine blk_drew ?_ | refine blk_alloc ?_ _)); refine blk_far ?_ NB103_108.out _; (with_reducible repeat (first | refine blk_drewN ?_ _ | refine blk_drew ?_ | refine blk_alloc ?_ _)); refine blk_far ?_ NB103_108.out _; (with_reducible repeat (first | refine blk_drewN ?_ _ | refine blk_drew ?_ | refine blk_alloc ?_ _)); refine blk_far ?_ NB103_108.out _; (with_reducible repeat (first | refine blk_drewN ?_ _ | refine blk_drew ?_ | refine blk_alloc ?_ _)); refine blk_far ?_ NB103_108.out _; (with_reducible repeat (first | refine blk_drewN ?_ _ | refine blk_drew ?_ | refine blk_alloc ?_ _)); refine blk_far ?_ NB103_108.out _; (with_reducible repeat (first | refine blk_drewN ?_ _ | refine blk_drew ?_ | refine blk_alloc ?_ _)); exact BK103.out⟩
          have n2_ : Aside0 (((((((w63.setCell ⟨gb108, 0, none⟩ (.int .i64 a3_1)).setCell ⟨gb108, 1, none⟩ (.int .i64 a3_0)).setCell ⟨gb108, 2, none⟩ (.int .i64 a0_2)).setCell ⟨gb108, 3, none⟩ (.int .i64 a0_3)).setCell ⟨gb108, 3, none⟩ (.int .i64 ji53)).setCell ⟨gb108, 2, none⟩ (.int .i64 (wrap64 (a1 + a2)))).heap[gb104]? = some (.cells #[.int .i64 0, .int .i64 0, .int .i64 0, .int .i64 0] 25 (0, 0))) := ⟨by (with_reducible repeat (first | refine blk_drewN ?_ _ | refine blk_drew ?_ | refine blk_alloc ?_ _)); refine blk_far ?_ NB104_108.out _; (with_reducible repeat (first | refine blk_drewN ?_ _ | refine blk_drew ?_ | refine blk_alloc ?_ _)); refine blk_far ?_ NB104_108.out _; (with_reducible repeat (first | refine blk_drewN ?_ _ | refine blk_drew ?_ | refine blk_alloc ?_ _)); refine blk_far ?_ NB104_108.out _; (with_reducible repeat (first | refine blk_drewN ?_ _ | refine blk_drew ?_ | refine blk_alloc ?_ _)); refine blk_far ?_ NB104_108.out _; (with_reducible repeat (first | refine blk_drewN ?_ _ | refine blk_drew ?_ | refine blk_alloc ?_ _)); refine blk_far ?_ NB104_108.out _; (with_reducible repeat (first | refine blk_drewN ?_ _ | refine blk_drew ?_ | refine blk_alloc ?_ _)); refine blk_far ?_ NB104_108.out _; (with_reducible repeat (first | refine blk_drewN ?_ _ | refine blk_drew ?_ | refine blk_alloc ?_ _)); exact BK104.out⟩
          have n3_ : Aside0 (((((((w63.setCell ⟨gb108, 0, none⟩ (.int .i64 a3_1)).setCell ⟨gb108, 1, none⟩ (.int .i64 a3_0)).setCell ⟨gb108, 2, none⟩ (.int .i64 a0_2)).setCell ⟨gb108, 3, none⟩ (.int .i64 a0_3)).setCell ⟨gb108, 3, none⟩ (.int .i64 ji53)).setCell ⟨gb108, 2, none⟩ (.int .i64 (wrap64 (a1 + a2)))).heap[gb105]? = some (.cells #[.int .i64 0, .bool false, .int .i64 0, .int .i64 0] 32 (0, 0))) := ⟨by (with_reducible repeat (first | refine blk_drewN ?_ _ | refine blk_drew ?_ | refine blk_alloc ?_ _)); refine blk_far ?_ NB105_108.out _; (with_reducible repeat (first | refine blk_drewN ?_ _ | refine blk_drew ?_ | refine blk_alloc ?_ _)); refine blk_far ?_ NB105_108.out _; (with_reducible repeat (first | refine blk_drewN ?_ _ | refine blk_drew ?_ | refine blk_alloc ?_ _)); refine blk_far ?_ NB105_108.out _; (with_reducible repeat (first | refine blk_drewN ?_ _ | refine blk_drew ?_ | refine blk_alloc ?_ _)); refine blk_far ?_ NB105_108.out _; (with_reducible repeat (first | refine blk_drewN ?_ _ | refine blk_drew ?_ | refine blk_alloc ?_ _)); refine blk_far ?_ NB105_108.out _; (with_reducible repeat (first | refine blk_drewN ?_ _ | refine blk_drew ?_ | refine blk_alloc ?_ _)); refine blk_far ?_ NB105_108.out _; (with_reducible repeat (first | refine blk_drewN ?_ _ | refine blk_drew ?_ | refine blk_alloc ?_ _)); exact BK105.out⟩
          have n4_ : Aside0 (((((((w63.setCell ⟨gb108, 0, none⟩ (.int .i64 a3_1)).setCell ⟨gb108, 1, none⟩ (.int .i64 a3_0)).setCell ⟨gb108, 2, none⟩ (.int .i64 a0_2)).setCell ⟨gb108, 3, none⟩ (.int .i64 a0_3)).setCell ⟨gb108, 3, none⟩ (.int .i64 ji53)).setCell ⟨gb108, 2, none⟩ (.int .i64 (wrap64 (a1 + a2)))).heap[gb106]? = some (.cells #[.int .i64 0, .bool false, .int .i64 a0_0, .int .i64 a3_2] 32 (0, 0))) := ⟨by (with_reducible repeat (first | refine blk_drewN ?_ _ | refine blk_drew ?_ | refine blk_alloc ?_ _)); refine blk_far ?_ NB106_108.out _; (with_reducible repeat (first | refine blk_drewN ?_ _ | refine blk_drew ?_ | refine blk_alloc ?_ _)); refine blk_far ?_ NB106_108.out _; (with_reducible repeat (first | refine blk_drewN ?_ _ | refine blk_drew ?_ | refine blk_alloc ?_ _)); refine blk_far ?_ NB106_108.out _; (with_reducible repeat (first | refine blk_drewN ?_ _ | refine blk_drew ?_ | refine blk_alloc ?_ _)); refine blk_far ?_ NB106_108.out _; (with_reducible repeat (first | refine blk_drewN ?_ _ | refine blk_drew ?_ | refine blk_alloc ?_ _)); refine blk_far ?_ NB106_108.out _; (with_reducible repeat (first | refine blk_drewN ?_ _ | refine blk_drew ?_ | refine blk_alloc ?_ _)); refine blk_far ?_ NB106_108.out _; (with_reducible repeat (first | refine blk_drewN ?_ _ | refine blk_drew ?_ | refine blk_alloc ?_ _)); exact BK106.out⟩
          have n5_ : Aside0 (((((((w63.setCell ⟨gb108, 0, none⟩ (.int .i64 a3_1)).setCell ⟨gb108, 1, none⟩ (.int .i64 a3_0)).setCell ⟨gb108, 2, none⟩ (.int .i64 a0_2)).setCell ⟨gb108, 3, none⟩ (.int .i64 a0_3)).setCell ⟨gb108, 3, none⟩ (.int .i64 ji53)).setCell ⟨gb108, 2, none⟩ (.int .i64 (wrap64 (a1 + a2)))).heap[gb108]? = some (.cells #[.int .i64 a3_1, .int .i64 a3_0, .int .i64 (wrap64 (a1 + a2)), .int .i64 ji53] 25 (0, 0))) := ⟨by (with_reducible repeat (first | refine blk_drewN ?_ _ | refine blk_drew ?_ | refine blk_alloc ?_ _)); refine blk_put (cs := #[.int .i64 a3_1, .int .i64 a3_0, .int .i64 a0_2, .int .i64 ji53]) ?_ 2 _ rfl; (with_reducible repeat (first | refine blk_drewN ?_ _ | refine blk_drew ?_ | refine blk_alloc ?_ _)); refine blk_put (cs := #[.int .i64 a3_1, .int .i64 a3_0, .int .i64 a0_2, .int .i64 a0_3]) ?_ 3 _ rfl; (with_reducible repeat (first | refine blk_drewN ?_ _ | refine blk_drew ?_ | refine blk_alloc ?_ _)); refine blk_put (cs := #[.int .i64 a3_1, .int .i64 a3_0, .int .i64 a0_2, .int .i64 0]) ?_ 3 _ rfl; (with_reducible repeat (first | refine blk_drewN ?_ _ | refine blk_drew ?_ | refine blk_alloc ?_ _)); refine blk_put (cs := #[.int .i64 a3_1, .int .i64 a3_0, .int .i64 0, .int .i64 0]) ?_ 2 _ rfl; (with_reducible repeat (first | refine blk_drewN ?_ _ | refine blk_drew ?_ | refine blk_alloc ?_ _)); refine blk_put (cs := #[.int .i64 a3_1, .int .i64 0, .int .i64 0, .int .i64 0]) ?_ 1 _ rfl; (with_reducible repeat (first | refine blk_drewN ?_ _ | refine blk_drew ?_ | refine blk_alloc ?_ _)); refine blk_put (cs := #[.int .i64 0, .int .i64 0, .int .i64 0, .int .i64 0]) ?_ 0 _ rfl; (with_reducible repeat (first | refine blk_drewN ?_ _ | refine blk_drew ?_ | refine blk_alloc ?_ _)); exact BK108.out⟩
          have n6_ : Aside0 (Below w.heap.size w ((((((w63.setCell ⟨gb108, 0, none⟩ (.int .i64 a3_1)).setCell ⟨gb108, 1, none⟩ (.int .i64 a3_0)).setCell ⟨gb108, 2, none⟩ (.int .i64 a0_2)).setCell ⟨gb108, 3, none⟩ (.int .i64 a0_3)).setCell ⟨gb108, 3, none⟩ (.int .i64 ji53)).setCell ⟨gb108, 2, none⟩ (.int .i64 (wrap64 (a1 + a2))))) := ⟨by repeat (first | (with_reducible first | exact HB.out | apply below_alloc | apply pw_below_drewN | apply below_drew1 | refine below_set ?_ GE102.out | refine below_set ?_ GE103.out | refine below_set ?_ GE104.out | refine below_set ?_ GE105.out | refine below_set ?_ GE106.out | refine below_set ?_ GE108.out) | exact HB.out)⟩
          (try clear BK102)
          (try clear BK103)
          (try clear BK104)
          (try clear BK105)
          (try clear BK106)
          (try clear BK108)
          (try clear HB)
          generalize ((((((w63.setCell ⟨gb108, 0, none⟩ (.int .i64 a3_1)).setCell ⟨gb108, 1, none⟩ (.int .i64 a3_0)).setCell ⟨gb108, 2, none⟩ (.int .i64 a0_2)).setCell ⟨gb108, 3, none⟩ (.int .i64 a0_3)).setCell ⟨gb108, 3, none⟩ (.int .i64 ji53)).setCell ⟨gb108, 2, none⟩ (.int .i64 (wrap64 (a1 + a2)))) = w72 at n0_ n1_ n2_ n3_ n4_ n5_ n6_ ⊢
          have BK102 := n0_
          have BK103 := n1_
          have BK104 := n2_
          have BK105 := n3_
          have BK106 := n4_
          have BK108 := n5_
          have HB := n6_
          clear n0_ n1_ n2_ n3_ n4_ n5_ n6_
          have n0_ := Aside0.mk (blk_drew BK102.out)
          have n1_ := Aside0.mk (blk_drew BK103.out)
          have n2_ := Aside0.mk (blk_drew BK104.out)
          have n3_ := Aside0.mk (blk_drew BK105.out)
          have n4_ := Aside0.mk (blk_drew BK106.out)
          have n5_ := Aside0.mk (blk_drew BK108.out)
          have n6_ := Aside0.mk (below_drew1 HB.out)
          clear BK102
          clear BK103
          clear BK104
          clear BK105
          clear BK106
          clear BK108
          clear HB
          have BK102 := n0_
          have BK103 := n1_
          have BK104 := n2_
          have BK105 := n3_
          have BK106 := n4_
          have BK108 := n5_
          have HB := n6_
          clear n0_ n1_ n2_ n3_ n4_ n5_ n6_
          refine start_ (n := 8) (S := fun w' => w'.cell? ⟨gb108, 0, none⟩ = some (.int .i64 a3_1) ∧ w'.cell? ⟨gb108, 1, none⟩ = some (.int .i64 a3_0) ∧ w'.cell? ⟨gb108, 2, none⟩ = some (.int .i64 (wrap64 (a1 + a2))) ∧ w'.cell? ⟨gb108, 3, none⟩ = some (.int .i64 ji53) ∧ w'.cell? ⟨gb103, 0, none⟩ = some (.int .i64 a3_0) ∧ w'.cell? ⟨gb103, 1, none⟩ = some (.int .i64 a3_1) ∧ w'.cell? ⟨gb103, 2, none⟩ = some (.int .i64 a3_2)) (ds := []) #[false, false, false, false, false, false, false, false] (by kernel_rfl) rfl rfl ⟨(blk_cell BK108.out 0).trans rfl, (blk_cell BK108.out 1).trans rfl, (blk_cell BK108.out 2).trans rfl, (blk_cell BK108.out 3).trans rfl, (blk_cell BK103.out 0).trans rfl, (blk_cell BK103.out 1).trans rfl, (blk_cell BK103.out 2).trans rfl⟩ (fun hHeld => ?_); refine with_tabW ballot_Hear.tab11 ballot_Hear.bits11 (fun HT_ HW_ => ?_)
          generalize w72.drew = w73 at BK102 BK103 BK104 BK105 BK106 BK108 HB hHeld ⊢
          refine pure_ (i := 1) (N := some 79) (v := ?_) (a' := ?_) #[false, true, false, false, false, false, false, false] rfl rfl (any_of HT_.out (by kernel_rfl)) (fun _ _ _ h => h) (Or.inl ⟨by rfl, ?_⟩) ?_ ?_
          rotate_left
          · intro w'
            go_simp
            with_reducible rfl
          rotate_left
          · simp only [Act.put, List.setIfInBounds_toArray, List.set_cons_zero, List.set_cons_succ, i64_w, i32_w]
            rfl
          refine pure_ (i := 3) (N := some 81) (v := ?_) (a' := ?_) #[false, true, false, true, false, false, false, false] rfl rfl (any_of HT_.out (by kernel_rfl)) (fun _ _ _ h => h) (Or.inl ⟨by rfl, ?_⟩) ?_ ?_
          rotate_left
          · intro w'
            go_simp
            with_reducible rfl
          rotate_left
          · simp only [Act.put, List.setIfInBounds_toArray, List.set_cons_zero, List.set_cons_succ, i64_w, i32_w]
            rfl
          refine take_ (i := 0) (N := some 78) (v := ?_) (a' := ?_) #[true, true, false, true, false, false, false, false] rfl rfl (take_ofW HT_.out HW_.out (by kernel_rfl)) (fun _ _ _ h => h) (Or.inl ⟨by rfl, ?_⟩) hHeld ?_ ?_
          rotate_left
          · rintro w' ⟨s0, s1, s2, s3, s4, s5, s6⟩
            go_simp
            with_reducible rfl
          rotate_left
          · simp only [Act.put, List.setIfInBounds_toArray, List.set_cons_zero, List.set_cons_succ, i64_w, i32_w]
            rfl
          refine take_ (i := 2) (N := some 80) (v := ?_) (a' := ?_) #[true, true, true, true, false, false, false, false] rfl rfl (take_ofW HT_.out HW_.out (by kernel_rfl)) (fun _ _ _ h => h) (Or.inl ⟨by rfl, ?_⟩) hHeld ?_ ?_
          rotate_left
          · rintro w' ⟨s0, s1, s2, s3, s4, s5, s6⟩
            go_simp
            with_reducible rfl
          rotate_left
          · simp only [Act.put, List.setIfInBounds_toArray, List.set_cons_zero, List.set_cons_succ, i64_w, i32_w]
            rfl
          refine take_ (i := 4) (N := some 82) (v := ?_) (a' := ?_) #[true, true, true, true, true, false, false, false] rfl rfl (take_ofW HT_.out HW_.out (by kernel_rfl)) (fun _ _ _ h => h) (Or.inl ⟨by rfl, ?_⟩) hHeld ?_ ?_
          rotate_left
          · rintro w' ⟨s0, s1, s2, s3, s4, s5, s6⟩
            go_simp
            with_reducible rfl
          rotate_left
          · simp only [Act.put, List.setIfInBounds_toArray, List.set_cons_zero, List.set_cons_succ, i64_w, i32_w]
            rfl
          refine pure_ (i := 5) (N := some 83) (v := ?_) (a' := ?_) #[true, true, true, true, true, true, false, false] rfl rfl (any_of HT_.out (by kernel_rfl)) (fun _ _ _ h => h) (Or.inl ⟨by rfl, ?_⟩) ?_ ?_
          rotate_left
          · intro w'
            go_simp
            with_reducible rfl
          rotate_left
          · simp only [Act.put, List.setIfInBounds_toArray, List.set_cons_zero, List.set_cons_succ, i64_w, i32_w]
            rfl
          refine one_ (i := 6) (N := none) #[true, true, true, true, true, true, true, false] rfl rfl (one_of HT_.out (by kernel_rfl)) (by decide) (fun K hK => ?_)
          have hs74 : w73.cell? ⟨gb104, 0, none⟩ = some (.int .i64 0) := (blk_cell BK104.out 0).trans rfl
          have hfs74 := blk_frozen BK104.out 0
          have hns74_0 := NB102_104.out
          have hns74_1 := NB103_104.out
          have hns74_3 := NB105_104.out
          have hns74_4 := NB106_104.out
          have hns74_5 := NB108_104.out
          have hms74_0 := NB104_102.out
          have hms74_1 := NB104_103.out
          have hms74_3 := NB104_105.out
          have hms74_4 := NB104_106.out
          have hms74_5 := NB104_108.out
          have hs75 : w73.cell? ⟨gb104, 1, none⟩ = some (.int .i64 0) := (blk_cell BK104.out 1).trans rfl
          have hfs75 := blk_frozen BK104.out 1
          have hns75_0 := NB102_104.out
          have hns75_1 := NB103_104.out
          have hns75_3 := NB105_104.out
          have hns75_4 := NB106_104.out
          have hns75_5 := NB108_104.out
          have hms75_0 := NB104_102.out
          have hms75_1 := NB104_103.out
          have hms75_3 := NB104_105.out
          have hms75_4 := NB104_106.out
          have hms75_5 := NB104_108.out
          have hs76 : w73.cell? ⟨gb104, 2, none⟩ = some (.int .i64 0) := (blk_cell BK104.out 2).trans rfl
          have hfs76 := blk_frozen BK104.out 2
          have hns76_0 := NB102_104.out
          have hns76_1 := NB103_104.out
          have hns76_3 := NB105_104.out
          have hns76_4 := NB106_104.out
          have hns76_5 := NB108_104.out
          have hms76_0 := NB104_102.out
          have hms76_1 := NB104_103.out
          have hms76_3 := NB104_105.out
          have hms76_4 := NB104_106.out
          have hms76_5 := NB104_108.out
          have hs77 : w73.cell? ⟨gb104, 3, none⟩ = some (.int .i64 0) := (blk_cell BK104.out 3).trans rfl
          have hfs77 := blk_frozen BK104.out 3
          have hns77_0 := NB102_104.out
          have hns77_1 := NB103_104.out
          have hns77_3 := NB105_104.out
          have hns77_4 := NB106_104.out
          have hns77_5 := NB108_104.out
          have hms77_0 := NB104_102.out
          have hms77_1 := NB104_103.out
          have hms77_3 := NB104_105.out
          have hms77_4 := NB104_106.out
          have hms77_5 := NB104_108.out
          refine skip_ (w1 := ?_) (by rfl) rfl ?_ ?_
          rotate_left
          · go_simp
            rfl
          refine hK.out _ _ ⟨((cell_far (p := ⟨gb104, _, none⟩) NB108_104.out _).trans (((cell_far (p := ⟨gb104, _, none⟩) NB108_104.out _).trans (((cell_far (p := ⟨gb104, _, none⟩) NB108_104.out _).trans (((cell_far (p := ⟨gb104, _, none⟩) NB108_104.out _).trans (hHeld.1)))))))), ((cell_far (p := ⟨gb104, _, none⟩) NB108_104.out _).trans (((cell_far (p := ⟨gb104, _, none⟩) NB108_104.out _).trans (((cell_far (p := ⟨gb104, _, none⟩) NB108_104.out _).trans (((cell_far (p := ⟨gb104, _, none⟩) NB108_104.out _).trans (hHeld.2.1)))))))), ((cell_far (p := ⟨gb104, _, none⟩) NB108_104.out _).trans (((cell_far (p := ⟨gb104, _, none⟩) NB108_104.out _).trans (((cell_far (p := ⟨gb104, _, none⟩) NB108_104.out _).trans (((cell_far (p := ⟨gb104, _, none⟩) NB108_104.out _).trans (hHeld.2.2.1)))))))), ((cell_far (p := ⟨gb104, _, none⟩) NB108_104.out _).trans (((cell_far (p := ⟨gb104, _, none⟩) NB108_104.out _).trans (((cell_far (p := ⟨gb104, _, none⟩) NB108_104.out _).trans (((cell_far (p := ⟨gb104, _, none⟩) NB108_104.out _).trans (hHeld.2.2.2.1)))))))), ((cell_far (p := ⟨gb104, _, none⟩) NB103_104.out _).trans (((cell_far (p := ⟨gb104, _, none⟩) NB103_104.out _).trans (((cell_far (p := ⟨gb104, _, none⟩) NB103_104.out _).trans (((cell_far (p := ⟨gb104, _, none⟩) NB103_104.out _).trans (hHeld.2.2.2.2.1)))))))), ((cell_far (p := ⟨gb104, _, none⟩) NB103_104.out _).trans (((cell_far (p := ⟨gb104, _, none⟩) NB103_104.out _).trans (((cell_far (p := ⟨gb104, _, none⟩) NB103_104.out _).trans (((cell_far (p := ⟨gb104, _, none⟩) NB103_104.out _).trans (hHeld.2.2.2.2.2.1)))))))), ((cell_far (p := ⟨gb104, _, none⟩) NB103_104.out _).trans (((cell_far (p := ⟨gb104, _, none⟩) NB103_104.out _).trans (((cell_far (p := ⟨gb104, _, none⟩) NB103_104.out _).trans (((cell_far (p := ⟨gb104, _, none⟩) NB103_104.out _).trans (hHeld.2.2.2.2.2.2))))))))⟩ (fun hHeld => ?_)
          clear hK K
          refine one_ (i := 7) (N := none) #[true, true, true, true, true, true, true, true] rfl rfl (one_of HT_.out (by kernel_rfl)) (by decide) (fun K hK => ?_)
          have hs78 : w73.cell? ⟨gb105, 0, none⟩ = some (.int .i64 0) := (blk_cell BK105.out 0).trans rfl
          have hfs78 := blk_frozen BK105.out 0
          have hns78_0 := NB102_105.out
          have hns78_1 := NB103_105.out
          have hns78_2 := NB104_105.out
          have hns78_4 := NB106_105.out
          have hns78_5 := NB108_105.out
          have hms78_0 := NB105_102.out
          have hms78_1 := NB105_103.out
          have hms78_2 := NB105_104.out
          have hms78_4 := NB105_106.out
          have hms78_5 := NB105_108.out
          have hs79 : w73.cell? ⟨gb105, 1, none⟩ = some (.bool false) := (blk_cell BK105.out 1).trans rfl
          have hfs79 := blk_frozen BK105.out 1
          have hns79_0 := NB102_105.out
          have hns79_1 := NB103_105.out
          have hns79_2 := NB104_105.out
          have hns79_4 := NB106_105.out
          have hns79_5 := NB108_105.out
          have hms79_0 := NB105_102.out
          have hms79_1 := NB105_103.out
          have hms79_2 := NB105_104.out
          have hms79_4 := NB105_106.out
          have hms79_5 := NB105_108.out
          have hs80 : w73.cell? ⟨gb105, 2, none⟩ = some (.int .i64 0) := (blk_cell BK105.out 2).trans rfl
          have hfs80 := blk_frozen BK105.out 2
          have hns80_0 := NB102_105.out
          have hns80_1 := NB103_105.out
          have hns80_2 := NB104_105.out
          have hns80_4 := NB106_105.out
          have hns80_5 := NB108_105.out
          have hms80_0 := NB105_102.out
          have hms80_1 := NB105_103.out
          have hms80_2 := NB105_104.out
          have hms80_4 := NB105_106.out
          have hms80_5 := NB105_108.out
          have hs81 : w73.cell? ⟨gb105, 3, none⟩ = some (.int .i64 0) := (blk_cell BK105.out 3).trans rfl
          have hfs81 := blk_frozen BK105.out 3
          have hns81_0 := NB102_105.out
          have hns81_1 := NB103_105.out
          have hns81_2 := NB104_105.out
          have hns81_4 := NB106_105.out
          have hns81_5 := NB108_105.out
          have hms81_0 := NB105_102.out
          have hms81_1 := NB105_103.out
          have hms81_2 := NB105_104.out
          have hms81_4 := NB105_106.out
          have hms81_5 := NB105_108.out
          refine skip_ (w1 := ?_) (by rfl) rfl ?_ ?_
          rotate_left
          · go_simp
            rfl
          refine hK.out _ _ ⟨((cell_far (p := ⟨gb105, _, none⟩) NB108_105.out _).trans (((cell_far (p := ⟨gb105, _, none⟩) NB108_105.out _).trans (((cell_far (p := ⟨gb105, _, none⟩) NB108_105.out _).trans (((cell_far (p := ⟨gb105, _, none⟩) NB108_105.out _).trans (hHeld.1)))))))), ((cell_far (p := ⟨gb105, _, none⟩) NB108_105.out _).trans (((cell_far (p := ⟨gb105, _, none⟩) NB108_105.out _).trans (((cell_far (p := ⟨gb105, _, none⟩) NB108_105.out _).trans (((cell_far (p := ⟨gb105, _, none⟩) NB108_105.out _).trans (hHeld.2.1)))))))), ((cell_far (p := ⟨gb105, _, none⟩) NB108_105.out _).trans (((cell_far (p := ⟨gb105, _, none⟩) NB108_105.out _).trans (((cell_far (p := ⟨gb105, _, none⟩) NB108_105.out _).trans (((cell_far (p := ⟨gb105, _, none⟩) NB108_105.out _).trans (hHeld.2.2.1)))))))), ((cell_far (p := ⟨gb105, _, none⟩) NB108_105.out _).trans (((cell_far (p := ⟨gb105, _, none⟩) NB108_105.out _).trans (((cell_far (p := ⟨gb105, _, none⟩) NB108_105.out _).trans (((cell_far (p := ⟨gb105, _, none⟩) NB108_105.out _).trans (hHeld.2.2.2.1)))))))), ((cell_far (p := ⟨gb105, _, none⟩) NB103_105.out _).trans (((cell_far (p := ⟨gb105, _, none⟩) NB103_105.out _).trans (((cell_far (p := ⟨gb105, _, none⟩) NB103_105.out _).trans (((cell_far (p := ⟨gb105, _, none⟩) NB103_105.out _).trans (hHeld.2.2.2.2.1)))))))), ((cell_far (p := ⟨gb105, _, none⟩) NB103_105.out _).trans (((cell_far (p := ⟨gb105, _, none⟩) NB103_105.out _).trans (((cell_far (p := ⟨gb105, _, none⟩) NB103_105.out _).trans (((cell_far (p := ⟨gb105, _, none⟩) NB103_105.out _).trans (hHeld.2.2.2.2.2.1)))))))), ((cell_far (p := ⟨gb105, _, none⟩) NB103_105.out _).trans (((cell_far (p := ⟨gb105, _, none⟩) NB103_105.out _).trans (((cell_far (p := ⟨gb105, _, none⟩) NB103_105.out _).trans (((cell_far (p := ⟨gb105, _, none⟩) NB103_105.out _).trans (hHeld.2.2.2.2.2.2))))))))⟩ (fun hHeld => ?_)
          clear hK K
          refine done_ (done_of HT_.out (by kernel_rfl)) ?_
          try go_wp2
          refine bodyPost_ret (results_cc rfl _ _ gb104 gb105 25 32 #[.int .i64 a3_1, .int .i64 a3_0, .int .i64 (wrap64 (a1 + a2)), .int .i64 ji53] #[.int .i64 0, .bool true, .int .i64 a3_1, .int .i64 a3_2] (0, 0) (0, 0) _ _ rfl (by (with_reducible repeat (first | refine blk_drewN ?_ _ | refine blk_drew ?_ | refine blk_alloc ?_ _)); refine blk_far ?_ NB104_105.out _; (with_reducible repeat (first | refine blk_drewN ?_ _ | refine blk_drew ?_ | refine blk_alloc ?_ _)); refine blk_far ?_ NB104_105.out _; (with_reducible repeat (first | refine blk_drewN ?_ _ | refine blk_drew ?_ | refine blk_alloc ?_ _)); refine blk_far ?_ NB104_105.out _; (with_reducible repeat (first | refine blk_drewN ?_ _ | refine blk_drew ?_ | refine blk_alloc ?_ _)); refine blk_far ?_ NB104_105.out _; (with_reducible repeat (first | refine blk_drewN ?_ _ | refine blk_drew ?_ | refine blk_alloc ?_ _)); refine blk_put (cs := #[.int .i64 a3_1, .int .i64 a3_0, .int .i64 (wrap64 (a1 + a2)), .int .i64 0]) ?_ 3 _ rfl; (with_reducible repeat (first | refine blk_drewN ?_ _ | refine blk_drew ?_ | refine blk_alloc ?_ _)); refine blk_put (cs := #[.int .i64 a3_1, .int .i64 a3_0, .int .i64 0, .int .i64 0]) ?_ 2 _ rfl; (with_reducible repeat (first | refine blk_drewN ?_ _ | refine blk_drew ?_ | refine blk_alloc ?_ _)); refine blk_put (cs := #[.int .i64 a3_1, .int .i64 0, .int .i64 0, .int .i64 0]) ?_ 1 _ rfl; (with_reducible repeat (first | refine blk_drewN ?_ _ | refine blk_drew ?_ | refine blk_alloc ?_ _)); refine blk_put (cs := #[.int .i64 0, .int .i64 0, .int .i64 0, .int .i64 0]) ?_ 0 _ rfl; (with_reducible repeat (first | refine blk_drewN ?_ _ | refine blk_drew ?_ | refine blk_alloc ?_ _)); exact BK104.out) Try.underlying25 rfl (by kernel_rfl) rfl (by (with_reducible repeat (first | refine blk_drewN ?_ _ | refine blk_drew ?_ | refine blk_alloc ?_ _)); refine blk_put (cs := #[.int .i64 0, .bool true, .int .i64 a3_1, .int .i64 0]) ?_ 3 _ rfl; (with_reducible repeat (first | refine blk_drewN ?_ _ | refine blk_drew ?_ | refine blk_alloc ?_ _)); refine blk_put (cs := #[.int .i64 0, .bool true, .int .i64 0, .int .i64 0]) ?_ 2 _ rfl; (with_reducible repeat (first | refine blk_drewN ?_ _ | refine blk_drew ?_ | refine blk_alloc ?_ _)); refine blk_put (cs := #[.int .i64 0, .bool false, .int .i64 0, .int .i64 0]) ?_ 1 _ rfl; (with_reducible repeat (first | refine blk_drewN ?_ _ | refine blk_drew ?_ | refine blk_alloc ?_ _)); refine blk_put (cs := #[.int .i64 0, .bool false, .int .i64 0, .int .i64 0]) ?_ 0 _ rfl; (with_reducible repeat (first | refine blk_drewN ?_ _ | refine blk_drew ?_ | refine blk_alloc ?_ _)); refine blk_far ?_ NB105_104.out _; (with_reducible repeat (first | refine blk_drewN ?_ _ | refine blk_drew ?_ | refine blk_alloc ?_ _)); refine blk_far ?_ NB105_104.out _; (with_reducible repeat (first | refine blk_drewN ?_ _ | refine blk_drew ?_ | refine blk_alloc ?_ _)); refine blk_far ?_ NB105_104.out _; (with_reducible repeat (first | refine blk_drewN ?_ _ | refine blk_drew ?_ | refine blk_alloc ?_ _)); refine blk_far ?_ NB105_104.out _; (with_reducible repeat (first | refine blk_drewN ?_ _ | refine blk_drew ?_ | refine blk_alloc ?_ _)); exact BK105.out) Try.underlying32 rfl (by kernel_rfl)) rfl ?_
          exact ⟨by first | rfl | (simp [errW_none, errW_some] <;> rfl) | (simp only [← hji53]; first | rfl | (simp [errW_none, errW_some] <;> rfl)) | (simp [*, errW_none, errW_some] <;> rfl), by repeat (first | (with_reducible first | exact HB.out | apply below_alloc | apply pw_below_drewN | apply below_drew1 | refine below_set ?_ GE102.out | refine below_set ?_ GE103.out | refine below_set ?_ GE104.out | refine below_set ?_ GE105.out | refine below_set ?_ GE106.out | refine below_set ?_ GE108.out) | exact HB.out)⟩
        · rw [if_neg c52] at H
          have c52b0 : (a3_1 == a0_0 && (a3_0 == a0_1)) = false := by simpa using c52
          (try (have c52b1 : decide (a3_1 = a0_0 && (a3_0 == a0_1)) = false := by simpa using c52))
          (try (have c52b2 : (a3_1 == a0_0 && (a3_0 == a0_1)) = false := by simpa using c52))
          (try (have c52b3 : ¬ (a3_1 = a0_0 && (a3_0 == a0_1)) := by simpa using c52))
          clear c52
          by_cases c82 : a1 < a0_2
          · rw [if_pos c82] at H
            have c82b0 : decide (a1 < a0_2) = true := decide_eq_true c82
            clear c82
            simp only [Option.some.injEq, Prod.mk.injEq] at H
            obtain ⟨rfl, rfl, rfl, rfl, rfl, rfl, rfl, rfl⟩ := H
            have hnb83 := NB103_102.out
            have hnc83 := NB102_103.out
            have hnb84 := NB103_104.out
            have hnc84 := NB104_103.out
            have hnb85 := NB103_105.out
            have hnc85 := NB105_103.out
            have hnb86 := NB103_106.out
            have hnc86 := NB106_103.out
            have hcz87_0 : wc.cell? ⟨gb103, 0, none⟩ = some (.int .i64 a3_0) := (blk_cell BK103.out 0).trans rfl
            have hcz87_1 : wc.cell? ⟨gb103, 1, none⟩ = some (.int .i64 a3_1) := (blk_cell BK103.out 1).trans rfl
            have hcz87_2 : wc.cell? ⟨gb103, 2, none⟩ = some (.int .i64 a3_2) := (blk_cell BK103.out 2).trans rfl
            have hfz87_0 := blk_frozen BK103.out 0
            have hfz87_1 := blk_frozen BK103.out 1
            have hfz87_2 := blk_frozen BK103.out 2
            have hnb88 := NB102_104.out
            have hnc88 := NB104_102.out
            have hnb89 := NB102_105.out
            have hnc89 := NB105_102.out
            have hnb90 := NB102_106.out
            have hnc90 := NB106_102.out
            have hcz91_0 : wc.cell? ⟨gb102, 0, none⟩ = some (.int .i64 a0_0) := (blk_cell BK102.out 0).trans rfl
            have hcz91_1 : wc.cell? ⟨gb102, 1, none⟩ = some (.int .i64 a0_1) := (blk_cell BK102.out 1).trans rfl
            have hcz91_2 : wc.cell? ⟨gb102, 2, none⟩ = some (.int .i64 a0_2) := (blk_cell BK102.out 2).trans rfl
            have hcz91_3 : wc.cell? ⟨gb102, 3, none⟩ = some (.int .i64 a0_3) := (blk_cell BK102.out 3).trans rfl
            have hfz91_0 := blk_frozen BK102.out 0
            have hfz91_1 := blk_frozen BK102.out 1
            have hfz91_2 := blk_frozen BK102.out 2
            have hfz91_3 := blk_frozen BK102.out 3
            try go_wp2_with (first | ((with_reducible refine gate_dst (N := 11) rfl ?_); refine box_event ?hg (N := 11) ?hd (cs := #[.int .i64 0, .int .i64 0, .int .i64 0, .int .i64 0]) (t := 25) ?hr ?_; (case hd => rfl); (case hg => rfl); (case hr => first | (go_simp; done) | (go_simp; rfl)); intro gb108 hg w92 hbox hb; have n0_ := Aside0.mk (blk_below (g := gb102) (o := .cells #[.int .i64 a0_0, .int .i64 a0_1, .int .i64 a0_2, .int .i64 a0_3] 25 (0, 0)) (by (with_reducible repeat (first | refine blk_drewN ?_ _ | refine blk_drew ?_ | refine blk_alloc ?_ _)); exact BK102.out) hb); have n1_ := Aside0.mk (blk_below (g := gb103) (o := .cells #[.int .i64 a3_0, .int .i64 a3_1, .int .i64 a3_2] 28 (0, 0)) (by (with_reducible repeat (first | refine blk_drewN ?_ _ | refine blk_drew ?_ | refine blk_alloc ?_ _)); exact BK103.out) hb); have n2_ := Aside0.mk (blk_below (g := gb104) (o := .cells #[.int .i64 0, .int .i64 0, .int .i64 0, .int .i64 0] 25 (0, 0)) (by (with_reducible repeat (first | refine blk_drewN ?_ _ | refine blk_drew ?_ | refine blk_alloc ?_ _)); exact BK104.out) hb); have n3_ := Aside0.mk (blk_below (g := gb105) (o := .cells #[.int .i64 0, .bool false, .int .i64 0, .int .i64 0] 32 (0, 0)) (by (with_reducible repeat (first | refine blk_drewN ?_ _ | refine blk_drew ?_ | refine blk_alloc ?_ _)); exact BK105.out) hb); have n4_ := Aside0.mk (blk_below (g := gb106) (o := .cells #[.int .i64 0, .bool false, .int .i64 a0_0, .int .i64 a3_2] 32 (0, 0)) (by (with_reducible repeat (first | refine blk_drewN ?_ _ | refine blk_drew ?_ | refine blk_alloc ?_ _)); exact BK106.out) hb); have n5_ := Aside0.mk (below_step (by repeat (first | (with_reducible first | exact HB.out | apply below_alloc | apply pw_below_drewN | apply below_drew1 | refine below_set ?_ GE102.out | refine below_set ?_ GE103.out | refine below_set ?_ GE104.out | refine below_set ?_ GE105.out | refine below_set ?_ GE106.out) | exact HB.out)) hb); have n6_ := Aside0.mk (hbox); have n7_ := Aside0.mk ((by rw [hg]; exact (below_size (by repeat (first | (with_reducible first | exact HB.out | apply below_alloc | apply pw_below_drewN | apply below_drew1 | refine below_set ?_ GE102.out | refine below_set ?_ GE103.out | refine below_set ?_ GE104.out | refine below_set ?_ GE105.out | refine below_set ?_ GE106.out) | exact HB.out))) : w.heap.size ≤ gb108)); have n8_ := Aside0.mk ((by rw [hg]; exact (below_size (by repeat (first | (with_reducible first | exact HB.out | apply below_alloc | apply pw_below_drewN | apply below_drew1 | refine below_set ?_ GE102.out | refine below_set ?_ GE103.out | refine below_set ?_ GE104.out | refine below_set ?_ GE105.out | refine below_set ?_ GE106.out) | exact HB.out))) : w.heap.size ≤ gb108)); have n9_ := Aside0.mk ((by rw [hg]; exact Nat.ne_of_lt (blk_lt (g := gb102) (o := .cells #[.int .i64 a0_0, .int .i64 a0_1, .int .i64 a0_2, .int .i64 a0_3] 25 (0, 0)) (by (with_reducible repeat (first | refine blk_drewN ?_ _ | refine blk_drew ?_ | refine blk_alloc ?_ _)); exact BK102.out)) : gb102 ≠ gb108)); have n10_ := Aside0.mk ((by rw [hg]; exact Nat.ne_of_gt (blk_lt (g := gb102) (o := .cells #[.int .i64 a0_0, .int .i64 a0_1, .int .i64 a0_2, .int .i64 a0_3] 25 (0, 0)) (by (with_reducible repeat (first | refine blk_drewN ?_ _ | refine blk_drew ?_ | refine blk_alloc ?_ _)); exact BK102.out)) : gb108 ≠ gb102)); have n11_ := Aside0.mk ((by rw [hg]; exact Nat.ne_of_lt (blk_lt (g := gb103) (o := .cells #[.int .i64 a3_0, .int .i64 a3_1, .int .i64 a3_2] 28 (0, 0)) (by (with_reducible repeat (first | refine blk_drewN ?_ _ | refine blk_drew ?_ | refine blk_alloc ?_ _)); exact BK103.out)) : gb103 ≠ gb108)); have n12_ := Aside0.mk ((by rw [hg]; exact Nat.ne_of_gt (blk_lt (g := gb103) (o := .cells #[.int .i64 a3_0, .int .i64 a3_1, .int .i64 a3_2] 28 (0, 0)) (by (with_reducible repeat (first | refine blk_drewN ?_ _ | refine blk_drew ?_ | refine blk_alloc ?_ _)); exact BK103.out)) : gb108 ≠ gb103)); have n13_ := Aside0.mk ((by rw [hg]; exact Nat.ne_of_lt (blk_lt (g := gb104) (o := .cells #[.int .i64 0, .int .i64 0, .int .i64 0, .int .i64 0] 25 (0, 0)) (by (with_reducible repeat (first | refine blk_drewN ?_ _ | refine blk_drew ?_ | refine blk_alloc ?_ _)); exact BK104.out)) : gb104 ≠ gb108)); have n14_ := Aside0.mk ((by rw [hg]; exact Nat.ne_of_gt (blk_lt (g := gb104) (o := .cells #[.int .i64 0, .int .i64 0, .int .i64 0, .int .i64 0] 25 (0, 0)) (by (with_reducible repeat (first | refine blk_drewN ?_ _ | refine blk_drew ?_ | refine blk_alloc ?_ _)); exact BK104.out)) : gb108 ≠ gb104)); have n15_ := Aside0.mk ((by rw [hg]; exact Nat.ne_of_lt (blk_lt (g := gb105) (o := .cells #[.int .i64 0, .bool false, .int .i64 0, .int .i64 0] 32 (0, 0)) (by (with_reducible repeat (first | refine blk_drewN ?_ _ | refine blk_drew ?_ | refine blk_alloc ?_ _)); exact BK105.out)) : gb105 ≠ gb108)); have n16_ := Aside0.mk ((by rw [hg]; exact Nat.ne_of_gt (blk_lt (g := gb105) (o := .cells #[.int .i64 0, .bool false, .int .i64 0, .int .i64 0] 32 (0, 0)) (by (with_reducible repeat (first | refine blk_drewN ?_ _ | refine blk_drew ?_ | refine blk_alloc ?_ _)); exact BK105.out)) : gb108 ≠ gb105)); have n17_ := Aside0.mk ((by rw [hg]; exact Nat.ne_of_lt (blk_lt (g := gb106) (o := .cells #[.int .i64 0, .bool false, .int .i64 a0_0, .int .i64 a3_2] 32 (0, 0)) (by (with_reducible repeat (first | refine blk_drewN ?_ _ | refine blk_drew ?_ | refine blk_alloc ?_ _)); exact BK106.out)) : gb106 ≠ gb108)); have n18_ := Aside0.mk ((by rw [hg]; exact Nat.ne_of_gt (blk_lt (g := gb106) (o := .cells #[.int .i64 0, .bool false, .int .i64 a0_0, .int .i64 a3_2] 32 (0, 0)) (by (with_reducible repeat (first | refine blk_drewN ?_ _ | refine blk_drew ?_ | refine blk_alloc ?_ _)); exact BK106.out)) : gb108 ≠ gb106)); clear BK102; clear BK103; clear BK104; clear BK105; clear BK106; clear HB; have BK102 := n0_; have BK103 := n1_; have BK104 := n2_; have BK105 := n3_; have BK106 := n4_; have HB := n5_; have BK108 := n6_; have GW108 := n7_; have GE108 := n8_; have NB102_108 := n9_; have NB108_102 := n10_; have NB103_108 := n11_; have NB108_103 := n12_; have NB104_108 := n13_; have NB108_104 := n14_; have NB105_108 := n15_; have NB108_105 := n16_; have NB106_108 := n17_; have NB108_106 := n18_; clear n0_ n1_ n2_ n3_ n4_ n5_ n6_ n7_ n8_ n9_ n10_ n11_ n12_ n13_ n14_ n15_ n16_ n17_ n18_; clear hb hbox hg; have hnb93 := NB108_102.out; have hnc93 := NB102_108.out; have hnb94 := NB108_103.out; have hnc94 := NB103_108.out; have hnb95 := NB108_104.out; have hnc95 := NB104_108.out; have hnb96 := NB108_105.out; have hnc96 := NB105_108.out; have hnb97 := NB108_106.out; have hnc97 := NB106_108.out; have hcz98_0 : w92.cell? ⟨gb108, 0, none⟩ = some (.int .i64 0) := (blk_cell BK108.out 0).trans rfl; have hcz98_1 : w92.cell? ⟨gb108, 1, none⟩ = some (.int .i64 0) := (blk_cell BK108.out 1).trans rfl; have hcz98_2 : w92.cell? ⟨gb108, 2, none⟩ = some (.int .i64 0) := (blk_cell BK108.out 2).trans rfl; have hcz98_3 : w92.cell? ⟨gb108, 3, none⟩ = some (.int .i64 0) := (blk_cell BK108.out 3).trans rfl; have hfz98_0 := blk_frozen BK108.out 0; have hfz98_1 := blk_frozen BK108.out 1; have hfz98_2 := blk_frozen BK108.out 2; have hfz98_3 := blk_frozen BK108.out 3; have hcz99_0 : w92.cell? ⟨gb102, 0, none⟩ = some (.int .i64 a0_0) := (blk_cell BK102.out 0).trans rfl; have hcz99_1 : w92.cell? ⟨gb102, 1, none⟩ = some (.int .i64 a0_1) := (blk_cell BK102.out 1).trans rfl; have hcz99_2 : w92.cell? ⟨gb102, 2, none⟩ = some (.int .i64 a0_2) := (blk_cell BK102.out 2).trans rfl; have hcz99_3 : w92.cell? ⟨gb102, 3, none⟩ = some (.int .i64 a0_3) := (blk_cell BK102.out 3).trans rfl; have hfz99_0 := blk_frozen BK102.out 0; have hfz99_1 := blk_frozen BK102.out 1; have hfz99_2 := blk_frozen BK102.out 2; have hfz99_3 := blk_frozen BK102.out 3))
            have n0_ : Aside0 (((((w92.setCell ⟨gb108, 0, none⟩ (.int .i64 a3_1)).setCell ⟨gb108, 1, none⟩ (.int .i64 a3_0)).setCell ⟨gb108, 2, none⟩ (.int .i64 a0_2)).setCell ⟨gb108, 3, none⟩ (.int .i64 a0_3)).heap[gb102]? = some (.cells #[.int .i64 a0_0, .int .i64 a0_1, .int .i64 a0_2, .int .i64 a0_3] 25 (0, 0))) := ⟨by (with_reducible repeat (first | refine blk_drewN ?_ _ | refine blk_drew ?_ | refine blk_alloc ?_ _)); refine blk_far ?_ NB102_108.out _; (with_reducible repeat (first | refine blk_drewN ?_ _ | refine blk_drew ?_ | refine blk_alloc ?_ _)); refine blk_far ?_ NB102_108.out _; (with_reducible repeat (first | refine blk_drewN ?_ _ | refine blk_drew ?_ | refine blk_alloc ?_ _)); refine blk_far ?_ NB102_108.out _; (with_reducible repeat (first | refine blk_drewN ?_ _ | refine blk_drew ?_ | refine blk_alloc ?_ _)); refine blk_far ?_ NB102_108.out _; (with_reducible repeat (first | refine blk_drewN ?_ _ | refine blk_drew ?_ | refine blk_alloc ?_ _)); exact BK102.out⟩
            have n1_ : Aside0 (((((w92.setCell ⟨gb108, 0, none⟩ (.int .i64 a3_1)).setCell ⟨gb108, 1, none⟩ (.int .i64 a3_0)).setCell ⟨gb108, 2, none⟩ (.int .i64 a0_2)).setCell ⟨gb108, 3, none⟩ (.int .i64 a0_3)).heap[gb103]? = some (.cells #[.int .i64 a3_0, .int .i64 a3_1, .int .i64 a3_2] 28 (0, 0))) := ⟨by (with_reducible repeat (first | refine blk_drewN ?_ _ | refine blk_drew ?_ | refine blk_alloc ?_ _)); refine blk_far ?_ NB103_108.out _; (with_reducible repeat (first | refine blk_drewN ?_ _ | refine blk_drew ?_ | refine blk_alloc ?_ _)); refine blk_far ?_ NB103_108.out _; (with_reducible repeat (first | refine blk_drewN ?_ _ | refine blk_drew ?_ | refine blk_alloc ?_ _)); refine blk_far ?_ NB103_108.out _; (with_reducible repeat (first | refine blk_drewN ?_ _ | refine blk_drew ?_ | refine blk_alloc ?_ _)); refine blk_far ?_ NB103_108.out _; (with_reducible repeat (first | refine blk_drewN ?_ _ | refine blk_drew ?_ | refine blk_alloc ?_ _)); exact BK103.out⟩
            have n2_ : Aside0 (((((w92.setCell ⟨gb108, 0, none⟩ (.int .i64 a3_1)).setCell ⟨gb108, 1, none⟩ (.int .i64 a3_0)).setCell ⟨gb108, 2, none⟩ (.int .i64 a0_2)).setCell ⟨gb108, 3, none⟩ (.int .i64 a0_3)).heap[gb104]? = some (.cells #[.int .i64 0, .int .i64 0, .int .i64 0, .int .i64 0] 25 (0, 0))) := ⟨by (with_reducible repeat (first | refine blk_drewN ?_ _ | refine blk_drew ?_ | refine blk_alloc ?_ _)); refine blk_far ?_ NB104_108.out _; (with_reducible repeat (first | refine blk_drewN ?_ _ | refine blk_drew ?_ | refine blk_alloc ?_ _)); refine blk_far ?_ NB104_108.out _; (with_reducible repeat (first | refine blk_drewN ?_ _ | refine blk_drew ?_ | refine blk_alloc ?_ _)); refine blk_far ?_ NB104_108.out _; (with_reducible repeat (first | refine blk_drewN ?_ _ | refine blk_drew ?_ | refine blk_alloc ?_ _)); refine blk_far ?_ NB104_108.out _; (with_reducible repeat (first | refine blk_drewN ?_ _ | refine blk_drew ?_ | refine blk_alloc ?_ _)); exact BK104.out⟩
            have n3_ : Aside0 (((((w92.setCell ⟨gb108, 0, none⟩ (.int .i64 a3_1)).setCell ⟨gb108, 1, none⟩ (.int .i64 a3_0)).setCell ⟨gb108, 2, none⟩ (.int .i64 a0_2)).setCell ⟨gb108, 3, none⟩ (.int .i64 a0_3)).heap[gb105]? = some (.cells #[.int .i64 0, .bool false, .int .i64 0, .int .i64 0] 32 (0, 0))) := ⟨by (with_reducible repeat (first | refine blk_drewN ?_ _ | refine blk_drew ?_ | refine blk_alloc ?_ _)); refine blk_far ?_ NB105_108.out _; (with_reducible repeat (first | refine blk_drewN ?_ _ | refine blk_drew ?_ | refine blk_alloc ?_ _)); refine blk_far ?_ NB105_108.out _; (with_reducible repeat (first | refine blk_drewN ?_ _ | refine blk_drew ?_ | refine blk_alloc ?_ _)); refine blk_far ?_ NB105_108.out _; (with_reducible repeat (first | refine blk_drewN ?_ _ | refine blk_drew ?_ | refine blk_alloc ?_ _)); refine blk_far ?_ NB105_108.out _; (with_reducible repeat (first | refine blk_drewN ?_ _ | refine blk_drew ?_ | refine blk_alloc ?_ _)); exact BK105.out⟩
            have n4_ : Aside0 (((((w92.setCell ⟨gb108, 0, none⟩ (.int .i64 a3_1)).setCell ⟨gb108, 1, none⟩ (.int .i64 a3_0)).setCell ⟨gb108, 2, none⟩ (.int .i64 a0_2)).setCell ⟨gb108, 3, none⟩ (.int .i64 a0_3)).heap[gb106]? = some (.cells #[.int .i64 0, .bool false, .int .i64 a0_0, .int .i64 a3_2] 32 (0, 0))) := ⟨by (with_reducible repeat (first | refine blk_drewN ?_ _ | refine blk_drew ?_ | refine blk_alloc ?_ _)); refine blk_far ?_ NB106_108.out _; (with_reducible repeat (first | refine blk_drewN ?_ _ | refine blk_drew ?_ | refine blk_alloc ?_ _)); refine blk_far ?_ NB106_108.out _; (with_reducible repeat (first | refine blk_drewN ?_ _ | refine blk_drew ?_ | refine blk_alloc ?_ _)); refine blk_far ?_ NB106_108.out _; (with_reducible repeat (first | refine blk_drewN ?_ _ | refine blk_drew ?_ | refine blk_alloc ?_ _)); refine blk_far ?_ NB106_108.out _; (with_reducible repeat (first | refine blk_drewN ?_ _ | refine blk_drew ?_ | refine blk_alloc ?_ _)); exact BK106.out⟩
            have n5_ : Aside0 (((((w92.setCell ⟨gb108, 0, none⟩ (.int .i64 a3_1)).setCell ⟨gb108, 1, none⟩ (.int .i64 a3_0)).setCell ⟨gb108, 2, none⟩ (.int .i64 a0_2)).setCell ⟨gb108, 3, none⟩ (.int .i64 a0_3)).heap[gb108]? = some (.cells #[.int .i64 a3_1, .int .i64 a3_0, .int .i64 a0_2, .int .i64 a0_3] 25 (0, 0))) := ⟨by (with_reducible repeat (first | refine blk_drewN ?_ _ | refine blk_drew ?_ | refine blk_alloc ?_ _)); refine blk_put (cs := #[.int .i64 a3_1, .int .i64 a3_0, .int .i64 a0_2, .int .i64 0]) ?_ 3 _ rfl; (with_reducible repeat (first | refine blk_drewN ?_ _ | refine blk_drew ?_ | refine blk_alloc ?_ _)); refine blk_put (cs := #[.int .i64 a3_1, .int .i64 a3_0, .int .i64 0, .int .i64 0]) ?_ 2 _ rfl; (with_reducible repeat (first | refine blk_drewN ?_ _ | refine blk_drew ?_ | refine blk_alloc ?_ _)); refine blk_put (cs := #[.int .i64 a3_1, .int .i64 0, .int .i64 0, .int .i64 0]) ?_ 1 _ rfl; (with_reducible repeat (first | refine blk_drewN ?_ _ | refine blk_drew ?_ | refine blk_alloc ?_ _)); refine blk_put (cs := #[.int .i64 0, .int .i64 0, .int .i64 0, .int .i64 0]) ?_ 0 _ rfl; (with_reducible repeat (first | refine blk_drewN ?_ _ | refine blk_drew ?_ | refine blk_alloc ?_ _)); exact BK108.out⟩
            have n6_ : Aside0 (Below w.heap.size w ((((w92.setCell ⟨gb108, 0, none⟩ (.int .i64 a3_1)).setCell ⟨gb108, 1, none⟩ (.int .i64 a3_0)).setCell ⟨gb108, 2, none⟩ (.int .i64 a0_2)).setCell ⟨gb108, 3, none⟩ (.int .i64 a0_3))) := ⟨by repeat (first | (with_reducible first | exact HB.out | apply below_alloc | apply pw_below_drewN | apply below_drew1 | refine below_set ?_ GE102.out | refine below_set ?_ GE103.out | refine below_set ?_ GE104.out | refine below_set ?_ GE105.out | refine below_set ?_ GE106.out | refine below_set ?_ GE108.out) | exact HB.out)⟩
            (try clear BK102)
            (try clear BK103)
            (try clear BK104)
            (try clear BK105)
            (try clear BK106)
            (try clear BK108)
            (try clear HB)
            generalize ((((w92.setCell ⟨gb108, 0, none⟩ (.int .i64 a3_1)).setCell ⟨gb108, 1, none⟩ (.int .i64 a3_0)).setCell ⟨gb108, 2, none⟩ (.int .i64 a0_2)).setCell ⟨gb108, 3, none⟩ (.int .i64 a0_3)) = w100 at n0_ n1_ n2_ n3_ n4_ n5_ n6_ ⊢
            have BK102 := n0_
            have BK103 := n1_
            have BK104 := n2_
            have BK105 := n3_
            have BK106 := n4_
            have BK108 := n5_
            have HB := n6_
            clear n0_ n1_ n2_ n3_ n4_ n5_ n6_
            have n0_ := Aside0.mk (blk_drew BK102.out)
            have n1_ := Aside0.mk (blk_drew BK103.out)
            have n2_ := Aside0.mk (blk_drew BK104.out)
            have n3_ := Aside0.mk (blk_drew BK105.out)
            have n4_ := Aside0.mk (blk_drew BK106.out)
            have n5_ := Aside0.mk (blk_drew BK108.out)
            have n6_ := Aside0.mk (below_drew1 HB.out)
            clear BK102
            clear BK103
            clear BK104
            clear BK105
            clear BK106
            clear BK108
            clear HB
            have BK102 := n0_
            have BK103 := n1_
            have BK104 := n2_
            have BK105 := n3_
            have BK106 := n4_
            have BK108 := n5_
            have HB := n6_
            clear n0_ n1_ n2_ n3_ n4_ n5_ n6_
            refine start_ (n := 4) (S := fun w' => w'.cell? ⟨gb102, 0, none⟩ = some (.int .i64 a0_0) ∧ w'.cell? ⟨gb102, 1, none⟩ = some (.int .i64 a0_1) ∧ w'.cell? ⟨gb102, 2, none⟩ = some (.int .i64 a0_2) ∧ w'.cell? ⟨gb102, 3, none⟩ = some (.int .i64 a0_3) ∧ w'.cell? ⟨gb106, 0, none⟩ = some (.int .i64 0) ∧ w'.cell? ⟨gb106, 1, none⟩ = some (.bool false) ∧ w'.cell? ⟨gb106, 2, none⟩ = some (.int .i64 a0_0) ∧ w'.cell? ⟨gb106, 3, none⟩ = some (.int .i64 a3_2)) (ds := []) #[false, false, false, false] (by kernel_rfl) rfl rfl ⟨(blk_cell BK102.out 0).trans rfl, (blk_cell BK102.out 1).trans rfl, (blk_cell BK102.out 2).trans rfl, (blk_cell BK102.out 3).trans rfl, (blk_cell BK106.out 0).trans rfl, (blk_cell BK106.out 1).trans rfl, (blk_cell BK106.out 2).trans rfl, (blk_cell BK106.out 3).trans rfl⟩ (fun hHeld => ?_)
            generalize w100.drew = w101 at BK102 BK103 BK104 BK105 BK106 BK108 HB hHeld ⊢
            refine take_ (i := 0) (N := some 72) (v := ?_) (a' := ?_) #[true, false, false, false] rfl rfl (by kernel_rfl) (fun _ _ _ h => h) (Or.inl ⟨by rfl, ?_⟩) hHeld ?_ ?_
            rotate_left
            · rintro w' ⟨s0, s1, s2, s3, s4, s5, s6, s7⟩
              go_simp
              with_reducible rfl
            rotate_left
            · simp only [Act.put, List.setIfInBounds_toArray, List.set_cons_zero, List.set_cons_succ, i64_w, i32_w]
              rfl
            refine take_ (i := 1) (N := some 73) (v := ?_) (a' := ?_) #[true, true, false, false] rfl rfl (by kernel_rfl) (fun _ _ _ h => h) (Or.inl ⟨by rfl, ?_⟩) hHeld ?_ ?_
            rotate_left
            · rintro w' ⟨s0, s1, s2, s3, s4, s5, s6, s7⟩
              go_simp
              with_reducible rfl
            rotate_left
            · simp only [Act.put, List.setIfInBounds_toArray, List.set_cons_zero, List.set_cons_succ, i64_w, i32_w]
              rfl
            refine one_ (i := 2) (N := none) #[true, true, true, false] rfl rfl (by kernel_rfl) (by decide) (fun K hK => ?_)
            have hs102 : w101.cell? ⟨gb104, 0, none⟩ = some (.int .i64 0) := (blk_cell BK104.out 0).trans rfl
            have hfs102 := blk_frozen BK104.out 0
            have hns102_0 := NB102_104.out
            have hns102_1 := NB103_104.out
            have hns102_3 := NB105_104.out
            have hns102_4 := NB106_104.out
            have hns102_5 := NB108_104.out
            have hms102_0 := NB104_102.out
            have hms102_1 := NB104_103.out
            have hms102_3 := NB104_105.out
            have hms102_4 := NB104_106.out
            have hms102_5 := NB104_108.out
            have hs103 : w101.cell? ⟨gb104, 1, none⟩ = some (.int .i64 0) := (blk_cell BK104.out 1).trans rfl
            have hfs103 := blk_frozen BK104.out 1
            have hns103_0 := NB102_104.out
            have hns103_1 := NB103_104.out
            have hns103_3 := NB105_104.out
            have hns103_4 := NB106_104.out
            have hns103_5 := NB108_104.out
            have hms103_0 := NB104_102.out
            have hms103_1 := NB104_103.out
            have hms103_3 := NB104_105.out
            have hms103_4 := NB104_106.out
            have hms103_5 := NB104_108.out
            have hs104 : w101.cell? ⟨gb104, 2, none⟩ = some (.int .i64 0) := (blk_cell BK104.out 2).trans rfl
            have hfs104 := blk_frozen BK104.out 2
            have hns104_0 := NB102_104.out
            have hns104_1 := NB103_104.out
            have hns104_3 := NB105_104.out
            have hns104_4 := NB106_104.out
            have hns104_5 := NB108_104.out
            have hms104_0 := NB104_102.out
            have hms104_1 := NB104_103.out
            have hms104_3 := NB104_105.out
            have hms104_4 := NB104_106.out
            have hms104_5 := NB104_108.out
            have hs105 : w101.cell? ⟨gb104, 3, none⟩ = some (.int .i64 0) := (blk_cell BK104.out 3).trans rfl
            have hfs105 := blk_frozen BK104.out 3
            have hns105_0 := NB102_104.out
            have hns105_1 := NB103_104.out
            have hns105_3 := NB105_104.out
            have hns105_4 := NB106_104.out
            have hns105_5 := NB108_104.out
            have hms105_0 := NB104_102.out
            have hms105_1 := NB104_103.out
            have hms105_3 := NB104_105.out
            have hms105_4 := NB104_106.out
            have hms105_5 := NB104_108.out
            refine skip_ (w1 := ?_) (by rfl) rfl ?_ ?_
            rotate_left
            · go_simp
              rfl
            refine hK.out _ _ ⟨((cell_far (p := ⟨gb104, _, none⟩) NB102_104.out _).trans (((cell_far (p := ⟨gb104, _, none⟩) NB102_104.out _).trans (((cell_far (p := ⟨gb104, _, none⟩) NB102_104.out _).trans (((cell_far (p := ⟨gb104, _, none⟩) NB102_104.out _).trans (hHeld.1)))))))), ((cell_far (p := ⟨gb104, _, none⟩) NB102_104.out _).trans (((cell_far (p := ⟨gb104, _, none⟩) NB102_104.out _).trans (((cell_far (p := ⟨gb104, _, none⟩) NB102_104.out _).trans (((cell_far (p := ⟨gb104, _, none⟩) NB102_104.out _).trans (hHeld.2.1)))))))), ((cell_far (p := ⟨gb104, _, none⟩) NB102_104.out _).trans (((cell_far (p := ⟨gb104, _, none⟩) NB102_104.out _).trans (((cell_far (p := ⟨gb104, _, none⟩) NB102_104.out _).trans (((cell_far (p := ⟨gb104, _, none⟩) NB102_104.out _).trans (hHeld.2.2.1)))))))), ((cell_far (p := ⟨gb104, _, none⟩) NB102_104.out _).trans (((cell_far (p := ⟨gb104, _, none⟩) NB102_104.out _).trans (((cell_far (p := ⟨gb104, _, none⟩) NB102_104.out _).trans (((cell_far (p := ⟨gb104, _, none⟩) NB102_104.out _).trans (hHeld.2.2.2.1)))))))), ((cell_far (p := ⟨gb104, _, none⟩) NB106_104.out _).trans (((cell_far (p := ⟨gb104, _, none⟩) NB106_104.out _).trans (((cell_far (p := ⟨gb104, _, none⟩) NB106_104.out _).trans (((cell_far (p := ⟨gb104, _, none⟩) NB106_104.out _).trans (hHeld.2.2.2.2.1)))))))), ((cell_far (p := ⟨gb104, _, none⟩) NB106_104.out _).trans (((cell_far (p := ⟨gb104, _, none⟩) NB106_104.out _).trans (((cell_far (p := ⟨gb104, _, none⟩) NB106_104.out _).trans (((cell_far (p := ⟨gb104, _, none⟩) NB106_104.out _).trans (hHeld.2.2.2.2.2.1)))))))), ((cell_far (p := ⟨gb104, _, none⟩) NB106_104.out _).trans (((cell_far (p := ⟨gb104, _, none⟩) NB106_104.out _).trans (((cell_far (p := ⟨gb104, _, none⟩) NB106_104.out _).trans (((cell_far (p := ⟨gb104, _, none⟩) NB106_104.out _).trans (hHeld.2.2.2.2.2.2.1)))))))), ((cell_far (p := ⟨gb104, _, none⟩) NB106_104.out _).trans (((cell_far (p := ⟨gb104, _, none⟩) NB106_104.out _).trans (((cell_far (p := ⟨gb104, _, none⟩) NB106_104.out _).trans (((cell_far (p := ⟨gb104, _, none⟩) NB106_104.out _).trans (hHeld.2.2.2.2.2.2.2))))))))⟩ (fun hHeld => ?_)
            clear hK K
            refine one_ (i := 3) (N := none) #[true, true, true, true] rfl rfl (by kernel_rfl) (by decide) (fun K hK => ?_)
            have hs106 : w101.cell? ⟨gb105, 0, none⟩ = some (.int .i64 0) := (blk_cell BK105.out 0).trans rfl
            have hfs106 := blk_frozen BK105.out 0
            have hns106_0 := NB102_105.out
            have hns106_1 := NB103_105.out
            have hns106_2 := NB104_105.out
            have hns106_4 := NB106_105.out
            have hns106_5 := NB108_105.out
            have hms106_0 := NB105_102.out
            have hms106_1 := NB105_103.out
            have hms106_2 := NB105_104.out
            have hms106_4 := NB105_106.out
            have hms106_5 := NB105_108.out
            have hs107 : w101.cell? ⟨gb105, 1, none⟩ = some (.bool false) := (blk_cell BK105.out 1).trans rfl
            have hfs107 := blk_frozen BK105.out 1
            have hns107_0 := NB102_105.out
            have hns107_1 := NB103_105.out
            have hns107_2 := NB104_105.out
            have hns107_4 := NB106_105.out
            have hns107_5 := NB108_105.out
            have hms107_0 := NB105_102.out
            have hms107_1 := NB105_103.out
            have hms107_2 := NB105_104.out
            have hms107_4 := NB105_106.out
            have hms107_5 := NB105_108.out
            have hs108 : w101.cell? ⟨gb105, 2, none⟩ = some (.int .i64 0) := (blk_cell BK105.out 2).trans rfl
            have hfs108 := blk_frozen BK105.out 2
            have hns108_0 := NB102_105.out
            have hns108_1 := NB103_105.out
            have hns108_2 := NB104_105.out
            have hns108_4 := NB106_105.out
            have hns108_5 := NB108_105.out
            have hms108_0 := NB105_102.out
            have hms108_1 := NB105_103.out
            have hms108_2 := NB105_104.out
            have hms108_4 := NB105_106.out
            have hms108_5 := NB105_108.out
            have hs109 : w101.cell? ⟨gb105, 3, none⟩ = some (.int .i64 0) := (blk_cell BK105.out 3).trans rfl
            have hfs109 := blk_frozen BK105.out 3
            have hns109_0 := NB102_105.out
            have hns109_1 := NB103_105.out
            have hns109_2 := NB104_105.out
            have hns109_4 := NB106_105.out
            have hns109_5 := NB108_105.out
            have hms109_0 := NB105_102.out
            have hms109_1 := NB105_103.out
            have hms109_2 := NB105_104.out
            have hms109_4 := NB105_106.out
            have hms109_5 := NB105_108.out
            refine skip_ (w1 := ?_) (by rfl) rfl ?_ ?_
            rotate_left
            · go_simp
              rfl
            refine hK.out _ _ ⟨((cell_far (p := ⟨gb105, _, none⟩) NB102_105.out _).trans (((cell_far (p := ⟨gb105, _, none⟩) NB102_105.out _).trans (((cell_far (p := ⟨gb105, _, none⟩) NB102_105.out _).trans (((cell_far (p := ⟨gb105, _, none⟩) NB102_105.out _).trans (hHeld.1)))))))), ((cell_far (p := ⟨gb105, _, none⟩) NB102_105.out _).trans (((cell_far (p := ⟨gb105, _, none⟩) NB102_105.out _).trans (((cell_far (p := ⟨gb105, _, none⟩) NB102_105.out _).trans (((cell_far (p := ⟨gb105, _, none⟩) NB102_105.out _).trans (hHeld.2.1)))))))), ((cell_far (p := ⟨gb105, _, none⟩) NB102_105.out _).trans (((cell_far (p := ⟨gb105, _, none⟩) NB102_105.out _).trans (((cell_far (p := ⟨gb105, _, none⟩) NB102_105.out _).trans (((cell_far (p := ⟨gb105, _, none⟩) NB102_105.out _).trans (hHeld.2.2.1)))))))), ((cell_far (p := ⟨gb105, _, none⟩) NB102_105.out _).trans (((cell_far (p := ⟨gb105, _, none⟩) NB102_105.out _).trans (((cell_far (p := ⟨gb105, _, none⟩) NB102_105.out _).trans (((cell_far (p := ⟨gb105, _, none⟩) NB102_105.out _).trans (hHeld.2.2.2.1)))))))), ((cell_far (p := ⟨gb105, _, none⟩) NB106_105.out _).trans (((cell_far (p := ⟨gb105, _, none⟩) NB106_105.out _).trans (((cell_far (p := ⟨gb105, _, none⟩) NB106_105.out _).trans (((cell_far (p := ⟨gb105, _, none⟩) NB106_105.out _).trans (hHeld.2.2.2.2.1)))))))), ((cell_far (p := ⟨gb105, _, none⟩) NB106_105.out _).trans (((cell_far (p := ⟨gb105, _, none⟩) NB106_105.out _).trans (((cell_far (p := ⟨gb105, _, none⟩) NB106_105.out _).trans (((cell_far (p := ⟨gb105, _, none⟩) NB106_105.out _).trans (hHeld.2.2.2.2.2.1)))))))), ((cell_far (p := ⟨gb105, _, none⟩) NB106_105.out _).trans (((cell_far (p := ⟨gb105, _, none⟩) NB106_105.out _).trans (((cell_far (p := ⟨gb105, _, none⟩) NB106_105.out _).trans (((cell_far (p := ⟨gb105, _, none⟩) NB106_105.out _).trans (hHeld.2.2.2.2.2.2.1)))))))), ((cell_far (p := ⟨gb105, _, none⟩) NB106_105.out _).trans (((cell_far (p := ⟨gb105, _, none⟩) NB106_105.out _).trans (((cell_far (p := ⟨gb105, _, none⟩) NB106_105.out _).trans (((cell_far (p := ⟨gb105, _, none⟩) NB106_105.out _).trans (hHeld.2.2.2.2.2.2.2))))))))⟩ (fun hHeld => ?_)
            clear hK K
            refine done_ (by kernel_rfl) ?_
            try go_wp2
            refine bodyPost_ret (results_cc rfl _ _ gb104 gb105 25 32 #[.int .i64 a0_0, .int .i64 a0_1, .int .i64 a0_2, .int .i64 a0_3] #[.int .i64 0, .bool false, .int .i64 a0_0, .int .i64 a3_2] (0, 0) (0, 0) _ _ rfl (by (with_reducible repeat (first | refine blk_drewN ?_ _ | refine blk_drew ?_ | refine blk_alloc ?_ _)); refine blk_far ?_ NB104_105.out _; (with_reducible repeat (first | refine blk_drewN ?_ _ | refine blk_drew ?_ | refine blk_alloc ?_ _)); refine blk_far ?_ NB104_105.out _; (with_reducible repeat (first | refine blk_drewN ?_ _ | refine blk_drew ?_ | refine blk_alloc ?_ _)); refine blk_far ?_ NB104_105.out _; (with_reducible repeat (first | refine blk_drewN ?_ _ | refine blk_drew ?_ | refine blk_alloc ?_ _)); refine blk_far ?_ NB104_105.out _; (with_reducible repeat (first | refine blk_drewN ?_ _ | refine blk_drew ?_ | refine blk_alloc ?_ _)); refine blk_put (cs := #[.int .i64 a0_0, .int .i64 a0_1, .int .i64 a0_2, .int .i64 0]) ?_ 3 _ rfl; (with_reducible repeat (first | refine blk_drewN ?_ _ | refine blk_drew ?_ | refine blk_alloc ?_ _)); refine blk_put (cs := #[.int .i64 a0_0, .int .i64 a0_1, .int .i64 0, .int .i64 0]) ?_ 2 _ rfl; (with_reducible repeat (first | refine blk_drewN ?_ _ | refine blk_drew ?_ | refine blk_alloc ?_ _)); refine blk_put (cs := #[.int .i64 a0_0, .int .i64 0, .int .i64 0, .int .i64 0]) ?_ 1 _ rfl; (with_reducible repeat (first | refine blk_drewN ?_ _ | refine blk_drew ?_ | refine blk_alloc ?_ _)); refine blk_put (cs := #[.int .i64 0, .int .i64 0, .int .i64 0, .int .i64 0]) ?_ 0 _ rfl; (with_reducible repeat (first | refine blk_drewN ?_ _ | refine blk_drew ?_ | refine blk_alloc ?_ _)); exact BK104.out) Try.underlying25 rfl (by kernel_rfl) rfl (by (with_reducible repeat (first | refine blk_drewN ?_ _ | refine blk_drew ?_ | refine blk_alloc ?_ _)); refine blk_put (cs := #[.int .i64 0, .bool false, .int .i64 a0_0, .int .i64 0]) ?_ 3 _ rfl; (with_reducible repeat (first | refine blk_drewN ?_ _ | refine blk_drew ?_ | refine blk_alloc ?_ _)); refine blk_put (cs := #[.int .i64 0, .bool false, .int .i64 0, .int .i64 0]) ?_ 2 _ rfl; (with_reducible repeat (first | refine blk_drewN ?_ _ | refine blk_drew ?_ | refine blk_alloc ?_ _)); refine blk_put (cs := #[.int .i64 0, .bool false, .int .i64 0, .int .i64 0]) ?_ 1 _ rfl; (with_reducible repeat (first | refine blk_drewN ?_ _ | refine blk_drew ?_ | refine blk_alloc ?_ _)); refine blk_put (cs := #[.int .i64 0, .bool false, .int .i64 0, .int .i64 0]) ?_ 0 _ rfl; (with_reducible repeat (first | refine blk_drewN ?_ _ | refine blk_drew ?_ | refine blk_alloc ?_ _)); refine blk_far ?_ NB105_104.out _; (with_reducible repeat (first | refine blk_drewN ?_ _ | refine blk_drew ?_ | refine blk_alloc ?_ _)); refine blk_far ?_ NB105_104.out _; (with_reducible repeat (first | refine blk_drewN ?_ _ | refine blk_drew ?_ | refine blk_alloc ?_ _)); refine blk_far ?_ NB105_104.out _; (with_reducible repeat (first | refine blk_drewN ?_ _ | refine blk_drew ?_ | refine blk_alloc ?_ _)); refine blk_far ?_ NB105_104.out _; (with_reducible repeat (first | refine blk_drewN ?_ _ | refine blk_drew ?_ | refine blk_alloc ?_ _)); exact BK105.out) Try.underlying32 rfl (by kernel_rfl)) rfl ?_
            exact ⟨by first | rfl | (simp [errW_none, errW_some] <;> rfl) | (simp [*, errW_none, errW_some] <;> rfl), by repeat (first | (with_reducible first | exact HB.out | apply below_alloc | apply pw_below_drewN | apply below_drew1 | refine below_set ?_ GE102.out | refine below_set ?_ GE103.out | refine below_set ?_ GE104.out | refine below_set ?_ GE105.out | refine below_set ?_ GE106.out | refine below_set ?_ GE108.out) | exact HB.out)⟩
          · rw [if_neg c82] at H
            have c82b0 : decide (a1 < a0_2) = false := decide_eq_false c82
            clear c82
            by_cases c110 : a3_1 ≤ a0_0
            · rw [if_pos c110] at H
              have c110b0 : decide (a3_1 ≤ a0_0) = true := decide_eq_true c110
              clear c110
              simp only [Option.some.injEq, Prod.mk.injEq] at H
              obtain ⟨rfl, rfl, rfl, rfl, rfl, rfl, rfl, rfl⟩ := H
              have hnb111 := NB103_102.out
              have hnc111 := NB102_103.out
              have hnb112 := NB103_104.out
              have hnc112 := NB104_103.out
              have hnb113 := NB103_105.out
              have hnc113 := NB105_103.out
              have hnb114 := NB103_106.out
              have hnc114 := NB106_103.out
              have hcz115_0 : wc.cell? ⟨gb103, 0, none⟩ = some (.int .i64 a3_0) := (blk_cell BK103.out 0).trans rfl
              have hcz115_1 : wc.cell? ⟨gb103, 1, none⟩ = some (.int .i64 a3_1) := (blk_cell BK103.out 1).trans rfl
              have hcz115_2 : wc.cell? ⟨gb103, 2, none⟩ = some (.int .i64 a3_2) := (blk_cell BK103.out 2).trans rfl
              have hfz115_0 := blk_frozen BK103.out 0
              have hfz115_1 := blk_frozen BK103.out 1
              have hfz115_2 := blk_frozen BK103.out 2
              have hnb116 := NB102_104.out
              have hnc116 := NB104_102.out
              have hnb117 := NB102_105.out
              have hnc117 := NB105_102.out
              have hnb118 := NB102_106.out
              have hnc118 := NB106_102.out
              have hcz119_0 : wc.cell? ⟨gb102, 0, none⟩ = some (.int .i64 a0_0) := (blk_cell BK102.out 0).trans rfl
              have hcz119_1 : wc.cell? ⟨gb102, 1, none⟩ = some (.int .i64 a0_1) := (blk_cell BK102.out 1).trans rfl
              have hcz119_2 : wc.cell? ⟨gb102, 2, none⟩ = some (.int .i64 a0_2) := (blk_cell BK102.out 2).trans rfl
              have hcz119_3 : wc.cell? ⟨gb102, 3, none⟩ = some (.int .i64 a0_3) := (blk_cell BK102.out 3).trans rfl
              have hfz119_0 := blk_frozen BK102.out 0
              have hfz119_1 := blk_frozen BK102.out 1
              have hfz119_2 := blk_frozen BK102.out 2
              have hfz119_3 := blk_frozen BK102.out 3
              try go_wp2_with (first | ((with_reducible refine gate_dst (N := 11) rfl ?_); refine box_event ?hg (N := 11) ?hd (cs := #[.int .i64 0, .int .i64 0, .int .i64 0, .int .i64 0]) (t := 25) ?hr ?_; (case hd => rfl); (case hg => rfl); (case hr => first | (go_simp; done) | (go_simp; rfl)); intro gb108 hg w120 hbox hb; have n0_ := Aside0.mk (blk_below (g := gb102) (o := .cells #[.int .i64 a0_0, .int .i64 a0_1, .int .i64 a0_2, .int .i64 a0_3] 25 (0, 0)) (by (with_reducible repeat (first | refine blk_drewN ?_ _ | refine blk_drew ?_ | refine blk_alloc ?_ _)); exact BK102.out) hb); have n1_ := Aside0.mk (blk_below (g := gb103) (o := .cells #[.int .i64 a3_0, .int .i64 a3_1, .int .i64 a3_2] 28 (0, 0)) (by (with_reducible repeat (first | refine blk_drewN ?_ _ | refine blk_drew ?_ | refine blk_alloc ?_ _)); exact BK103.out) hb); have n2_ := Aside0.mk (blk_below (g := gb104) (o := .cells #[.int .i64 0, .int .i64 0, .int .i64 0, .int .i64 0] 25 (0, 0)) (by (with_reducible repeat (first | refine blk_drewN ?_ _ | refine blk_drew ?_ | refine blk_alloc ?_ _)); exact BK104.out) hb); have n3_ := Aside0.mk (blk_below (g := gb105) (o := .cells #[.int .i64 0, .bool false, .int .i64 0, .int .i64 0] 32 (0, 0)) (by (with_reducible repeat (first | refine blk_drewN ?_ _ | refine blk_drew ?_ | refine blk_alloc ?_ _)); exact BK105.out) hb); have n4_ := Aside0.mk (blk_below (g := gb106) (o := .cells #[.int .i64 0, .bool false, .int .i64 a0_0, .int .i64 a3_2] 32 (0, 0)) (by (with_reducible repeat (first | refine blk_drewN ?_ _ | refine blk_drew ?_ | refine blk_alloc ?_ _)); exact BK106.out) hb); have n5_ := Aside0.mk (below_step (by repeat (first | (with_reducible first | exact HB.out | apply below_alloc | apply pw_below_drewN | apply below_drew1 | refine below_set ?_ GE102.out | refine below_set ?_ GE103.out | refine below_set ?_ GE104.out | refine below_set ?_ GE105.out | refine below_set ?_ GE106.out) | exact HB.out)) hb); have n6_ := Aside0.mk (hbox); have n7_ := Aside0.mk ((by rw [hg]; exact (below_size (by repeat (first | (with_reducible first | exact HB.out | apply below_alloc | apply pw_below_drewN | apply below_drew1 | refine below_set ?_ GE102.out | refine below_set ?_ GE103.out | refine below_set ?_ GE104.out | refine below_set ?_ GE105.out | refine below_set ?_ GE106.out) | exact HB.out))) : w.heap.size ≤ gb108)); have n8_ := Aside0.mk ((by rw [hg]; exact (below_size (by repeat (first | (with_reducible first | exact HB.out | apply below_alloc | apply pw_below_drewN | apply below_drew1 | refine below_set ?_ GE102.out | refine below_set ?_ GE103.out | refine below_set ?_ GE104.out | refine below_set ?_ GE105.out | refine below_set ?_ GE106.out) | exact HB.out))) : w.heap.size ≤ gb108)); have n9_ := Aside0.mk ((by rw [hg]; exact Nat.ne_of_lt (blk_lt (g := gb102) (o := .cells #[.int .i64 a0_0, .int .i64 a0_1, .int .i64 a0_2, .int .i64 a0_3] 25 (0, 0)) (by (with_reducible repeat (first | refine blk_drewN ?_ _ | refine blk_drew ?_ | refine blk_alloc ?_ _)); exact BK102.out)) : gb102 ≠ gb108)); have n10_ := Aside0.mk ((by rw [hg]; exact Nat.ne_of_gt (blk_lt (g := gb102) (o := .cells #[.int .i64 a0_0, .int .i64 a0_1, .int .i64 a0_2, .int .i64 a0_3] 25 (0, 0)) (by (with_reducible repeat (first | refine blk_drewN ?_ _ | refine blk_drew ?_ | refine blk_alloc ?_ _)); exact BK102.out)) : gb108 ≠ gb102)); have n11_ := Aside0.mk ((by rw [hg]; exact Nat.ne_of_lt (blk_lt (g := gb103) (o := .cells #[.int .i64 a3_0, .int .i64 a3_1, .int .i64 a3_2] 28 (0, 0)) (by (with_reducible repeat (first | refine blk_drewN ?_ _ | refine blk_drew ?_ | refine blk_alloc ?_ _)); exact BK103.out)) : gb103 ≠ gb108)); have n12_ := Aside0.mk ((by rw [hg]; exact Nat.ne_of_gt (blk_lt (g := gb103) (o := .cells #[.int .i64 a3_0, .int .i64 a3_1, .int .i64 a3_2] 28 (0, 0)) (by (with_reducible repeat (first | refine blk_drewN ?_ _ | refine blk_drew ?_ | refine blk_alloc ?_ _)); exact BK103.out)) : gb108 ≠ gb103)); have n13_ := Aside0.mk ((by rw [hg]; exact Nat.ne_of_lt (blk_lt (g := gb104) (o := .cells #[.int .i64 0, .int .i64 0, .int .i64 0, .int .i64 0] 25 (0, 0)) (by (with_reducible repeat (first | refine blk_drewN ?_ _ | refine blk_drew ?_ | refine blk_alloc ?_ _)); exact BK104.out)) : gb104 ≠ gb108)); have n14_ := Aside0.mk ((by rw [hg]; exact Nat.ne_of_gt (blk_lt (g := gb104) (o := .cells #[.int .i64 0, .int .i64 0, .int .i64 0, .int .i64 0] 25 (0, 0)) (by (with_reducible repeat (first | refine blk_drewN ?_ _ | refine blk_drew ?_ | refine blk_alloc ?_ _)); exact BK104.out)) : gb108 ≠ gb104)); have n15_ := Aside0.mk ((by rw [hg]; exact Nat.ne_of_lt (blk_lt (g := gb105) (o := .cells #[.int .i64 0, .bool false, .int .i64 0, .int .i64 0] 32 (0, 0)) (by (with_reducible repeat (first | refine blk_drewN ?_ _ | refine blk_drew ?_ | refine blk_alloc ?_ _)); exact BK105.out)) : gb105 ≠ gb108)); have n16_ := Aside0.mk ((by rw [hg]; exact Nat.ne_of_gt (blk_lt (g := gb105) (o := .cells #[.int .i64 0, .bool false, .int .i64 0, .int .i64 0] 32 (0, 0)) (by (with_reducible repeat (first | refine blk_drewN ?_ _ | refine blk_drew ?_ | refine blk_alloc ?_ _)); exact BK105.out)) : gb108 ≠ gb105)); have n17_ := Aside0.mk ((by rw [hg]; exact Nat.ne_of_lt (blk_lt (g := gb106) (o := .cells #[.int .i64 0, .bool false, .int .i64 a0_0, .int .i64 a3_2] 32 (0, 0)) (by (with_reducible repeat (first | refine blk_drewN ?_ _ | refine blk_drew ?_ | refine blk_alloc ?_ _)); exact BK106.out)) : gb106 ≠ gb108)); have n18_ := Aside0.mk ((by rw [hg]; exact Nat.ne_of_gt (blk_lt (g := gb106) (o := .cells #[.int .i64 0, .bool false, .int .i64 a0_0, .int .i64 a3_2] 32 (0, 0)) (by (with_reducible repeat (first | refine blk_drewN ?_ _ | refine blk_drew ?_ | refine blk_alloc ?_ _)); exact BK106.out)) : gb108 ≠ gb106)); clear BK102; clear BK103; clear BK104; clear BK105; clear BK106; clear HB; have BK102 := n0_; have BK103 := n1_; have BK104 := n2_; have BK105 := n3_; have BK106 := n4_; have HB := n5_; have BK108 := n6_; have GW108 := n7_; have GE108 := n8_; have NB102_108 := n9_; have NB108_102 := n10_; have NB103_108 := n11_; have NB108_103 := n12_; have NB104_108 := n13_; have NB108_104 := n14_; have NB105_108 := n15_; have NB108_105 := n16_; have NB106_108 := n17_; have NB108_106 := n18_; clear n0_ n1_ n2_ n3_ n4_ n5_ n6_ n7_ n8_ n9_ n10_ n11_ n12_ n13_ n14_ n15_ n16_ n17_ n18_; clear hb hbox hg; have hnb121 := NB108_102.out; have hnc121 := NB102_108.out; have hnb122 := NB108_103.out; have hnc122 := NB103_108.out; have hnb123 := NB108_104.out; have hnc123 := NB104_108.out; have hnb124 := NB108_105.out; have hnc124 := NB105_108.out; have hnb125 := NB108_106.out; have hnc125 := NB106_108.out; have hcz126_0 : w120.cell? ⟨gb108, 0, none⟩ = some (.int .i64 0) := (blk_cell BK108.out 0).trans rfl; have hcz126_1 : w120.cell? ⟨gb108, 1, none⟩ = some (.int .i64 0) := (blk_cell BK108.out 1).trans rfl; have hcz126_2 : w120.cell? ⟨gb108, 2, none⟩ = some (.int .i64 0) := (blk_cell BK108.out 2).trans rfl; have hcz126_3 : w120.cell? ⟨gb108, 3, none⟩ = some (.int .i64 0) := (blk_cell BK108.out 3).trans rfl; have hfz126_0 := blk_frozen BK108.out 0; have hfz126_1 := blk_frozen BK108.out 1; have hfz126_2 := blk_frozen BK108.out 2; have hfz126_3 := blk_frozen BK108.out 3; have hcz127_0 : w120.cell? ⟨gb102, 0, none⟩ = some (.int .i64 a0_0) := (blk_cell BK102.out 0).trans rfl; have hcz127_1 : w120.cell? ⟨gb102, 1, none⟩ = some (.int .i64 a0_1) := (blk_cell BK102.out 1).trans rfl; have hcz127_2 : w120.cell? ⟨gb102, 2, none⟩ = some (.int .i64 a0_2) := (blk_cell BK102.out 2).trans rfl; have hcz127_3 : w120.cell? ⟨gb102, 3, none⟩ = some (.int .i64 a0_3) := (blk_cell BK102.out 3).trans rfl; have hfz127_0 := blk_frozen BK102.out 0; have hfz127_1 := blk_frozen BK102.out 1; have hfz127_2 := blk_frozen BK102.out 2; have hfz127_3 := blk_frozen BK102.out 3; have hcz128_0 : w120.cell? ⟨gb103, 0, none⟩ = some (.int .i64 a3_0) := (blk_cell BK103.out 0).trans rfl; have hcz128_1 : w120.cell? ⟨gb103, 1, none⟩ = some (.int .i64 a3_1) := (blk_cell BK103.out 1).trans rfl; have hcz128_2 : w120.cell? ⟨gb103, 2, none⟩ = some (.int .i64 a3_2) := (blk_cell BK103.out 2).trans rfl; have hfz128_0 := blk_frozen BK103.out 0; have hfz128_1 := blk_frozen BK103.out 1; have hfz128_2 := blk_frozen BK103.out 2))
              have n0_ : Aside0 (((((w120.setCell ⟨gb108, 0, none⟩ (.int .i64 a3_1)).setCell ⟨gb108, 1, none⟩ (.int .i64 a3_0)).setCell ⟨gb108, 2, none⟩ (.int .i64 a0_2)).setCell ⟨gb108, 3, none⟩ (.int .i64 a0_3)).heap[gb102]? = some (.cells #[.int .i64 a0_0, .int .i64 a0_1, .int .i64 a0_2, .int .i64 a0_3] 25 (0, 0))) := ⟨by (with_reducible repeat (first | refine blk_drewN ?_ _ | refine blk_drew ?_ | refine blk_alloc ?_ _)); refine blk_far ?_ NB102_108.out _; (with_reducible repeat (first | refine blk_drewN ?_ _ | refine blk_drew ?_ | refine blk_alloc ?_ _)); refine blk_far ?_ NB102_108.out _; (with_reducible repeat (first | refine blk_drewN ?_ _ | refine blk_drew ?_ | refine blk_alloc ?_ _)); refine blk_far ?_ NB102_108.out _; (with_reducible repeat (first | refine blk_drewN ?_ _ | refine blk_drew ?_ | refine blk_alloc ?_ _)); refine blk_far ?_ NB102_108.out _; (with_reducible repeat (first | refine blk_drewN ?_ _ | refine blk_drew ?_ | refine blk_alloc ?_ _)); exact BK102.out⟩
              have n1_ : Aside0 (((((w120.setCell ⟨gb108, 0, none⟩ (.int .i64 a3_1)).setCell ⟨gb108, 1, none⟩ (.int .i64 a3_0)).setCell ⟨gb108, 2, none⟩ (.int .i64 a0_2)).setCell ⟨gb108, 3, none⟩ (.int .i64 a0_3)).heap[gb103]? = some (.cells #[.int .i64 a3_0, .int .i64 a3_1, .int .i64 a3_2] 28 (0, 0))) := ⟨by (with_reducible repeat (first | refine blk_drewN ?_ _ | refine blk_drew ?_ | refine blk_alloc ?_ _)); refine blk_far ?_ NB103_108.out _; (with_reducible repeat (first | refine blk_drewN ?_ _ | refine blk_drew ?_ | refine blk_alloc ?_ _)); refine blk_far ?_ NB103_108.out _; (with_reducible repeat (first | refine blk_drewN ?_ _ | refine blk_drew ?_ | refine blk_alloc ?_ _)); refine blk_far ?_ NB103_108.out _; (with_reducible repeat (first | refine blk_drewN ?_ _ | refine blk_drew ?_ | refine blk_alloc ?_ _)); refine blk_far ?_ NB103_108.out _; (with_reducible repeat (first | refine blk_drewN ?_ _ | refine blk_drew ?_ | refine blk_alloc ?_ _)); exact BK103.out⟩
              have n2_ : Aside0 (((((w120.setCell ⟨gb108, 0, none⟩ (.int .i64 a3_1)).setCell ⟨gb108, 1, none⟩ (.int .i64 a3_0)).setCell ⟨gb108, 2, none⟩ (.int .i64 a0_2)).setCell ⟨gb108, 3, none⟩ (.int .i64 a0_3)).heap[gb104]? = some (.cells #[.int .i64 0, .int .i64 0, .int .i64 0, .int .i64 0] 25 (0, 0))) := ⟨by (with_reducible repeat (first | refine blk_drewN ?_ _ | refine blk_drew ?_ | refine blk_alloc ?_ _)); refine blk_far ?_ NB104_108.out _; (with_reducible repeat (first | refine blk_drewN ?_ _ | refine blk_drew ?_ | refine blk_alloc ?_ _)); refine blk_far ?_ NB104_108.out _; (with_reducible repeat (first | refine blk_drewN ?_ _ | refine blk_drew ?_ | refine blk_alloc ?_ _)); refine blk_far ?_ NB104_108.out _; (with_reducible repeat (first | refine blk_drewN ?_ _ | refine blk_drew ?_ | refine blk_alloc ?_ _)); refine blk_far ?_ NB104_108.out _; (with_reducible repeat (first | refine blk_drewN ?_ _ | refine blk_drew ?_ | refine blk_alloc ?_ _)); exact BK104.out⟩
              have n3_ : Aside0 (((((w120.setCell ⟨gb108, 0, none⟩ (.int .i64 a3_1)).setCell ⟨gb108, 1, none⟩ (.int .i64 a3_0)).setCell ⟨gb108, 2, none⟩ (.int .i64 a0_2)).setCell ⟨gb108, 3, none⟩ (.int .i64 a0_3)).heap[gb105]? = some (.cells #[.int .i64 0, .bool false, .int .i64 0, .int .i64 0] 32 (0, 0))) := ⟨by (with_reducible repeat (first | refine blk_drewN ?_ _ | refine blk_drew ?_ | refine blk_alloc ?_ _)); refine blk_far ?_ NB105_108.out _; (with_reducible repeat (first | refine blk_drewN ?_ _ | refine blk_drew ?_ | refine blk_alloc ?_ _)); refine blk_far ?_ NB105_108.out _; (with_reducible repeat (first | refine blk_drewN ?_ _ | refine blk_drew ?_ | refine blk_alloc ?_ _)); refine blk_far ?_ NB105_108.out _; (with_reducible repeat (first | refine blk_drewN ?_ _ | refine blk_drew ?_ | refine blk_alloc ?_ _)); refine blk_far ?_ NB105_108.out _; (with_reducible repeat (first | refine blk_drewN ?_ _ | refine blk_drew ?_ | refine blk_alloc ?_ _)); exact BK105.out⟩
              have n4_ : Aside0 (((((w120.setCell ⟨gb108, 0, none⟩ (.int .i64 a3_1)).setCell ⟨gb108, 1, none⟩ (.int .i64 a3_0)).setCell ⟨gb108, 2, none⟩ (.int .i64 a0_2)).setCell ⟨gb108, 3, none⟩ (.int .i64 a0_3)).heap[gb106]? = some (.cells #[.int .i64 0, .bool false, .int .i64 a0_0, .int .i64 a3_2] 32 (0, 0))) := ⟨by (with_reducible repeat (first | refine blk_drewN ?_ _ | refine blk_drew ?_ | refine blk_alloc ?_ _)); refine blk_far ?_ NB106_108.out _; (with_reducible repeat (first | refine blk_drewN ?_ _ | refine blk_drew ?_ | refine blk_alloc ?_ _)); refine blk_far ?_ NB106_108.out _; (with_reducible repeat (first | refine blk_drewN ?_ _ | refine blk_drew ?_ | refine blk_alloc ?_ _)); refine blk_far ?_ NB106_108.out _; (with_reducible repeat (first | refine blk_drewN ?_ _ | refine blk_drew ?_ | refine blk_alloc ?_ _)); refine blk_far ?_ NB106_108.out _; (with_reducible repeat (first | refine blk_drewN ?_ _ | refine blk_drew ?_ | refine blk_alloc ?_ _)); exact BK106.out⟩
              have n5_ : Aside0 (((((w120.setCell ⟨gb108, 0, none⟩ (.int .i64 a3_1)).setCell ⟨gb108, 1, none⟩ (.int .i64 a3_0)).setCell ⟨gb108, 2, none⟩ (.int .i64 a0_2)).setCell ⟨gb108, 3, none⟩ (.int .i64 a0_3)).heap[gb108]? = some (.cells #[.int .i64 a3_1, .int .i64 a3_0, .int .i64 a0_2, .int .i64 a0_3] 25 (0, 0))) := ⟨by (with_reducible repeat (first | refine blk_drewN ?_ _ | refine blk_drew ?_ | refine blk_alloc ?_ _)); refine blk_put (cs := #[.int .i64 a3_1, .int .i64 a3_0, .int .i64 a0_2, .int .i64 0]) ?_ 3 _ rfl; (with_reducible repeat (first | refine blk_drewN ?_ _ | refine blk_drew ?_ | refine blk_alloc ?_ _)); refine blk_put (cs := #[.int .i64 a3_1, .int .i64 a3_0, .int .i64 0, .int .i64 0]) ?_ 2 _ rfl; (with_reducible repeat (first | refine blk_drewN ?_ _ | refine blk_drew ?_ | refine blk_alloc ?_ _)); refine blk_put (cs := #[.int .i64 a3_1, .int .i64 0, .int .i64 0, .int .i64 0]) ?_ 1 _ rfl; (with_reducible repeat (first | refine blk_drewN ?_ _ | refine blk_drew ?_ | refine blk_alloc ?_ _)); refine blk_put (cs := #[.int .i64 0, .int .i64 0, .int .i64 0, .int .i64 0]) ?_ 0 _ rfl; (with_reducible repeat (first | refine blk_drewN ?_ _ | refine blk_drew ?_ | refine blk_alloc ?_ _)); exact BK108.out⟩
              have n6_ : Aside0 (Below w.heap.size w ((((w120.setCell ⟨gb108, 0, none⟩ (.int .i64 a3_1)).setCell ⟨gb108, 1, none⟩ (.int .i64 a3_0)).setCell ⟨gb108, 2, none⟩ (.int .i64 a0_2)).setCell ⟨gb108, 3, none⟩ (.int .i64 a0_3))) := ⟨by repeat (first | (with_reducible first | exact HB.out | apply below_alloc | apply pw_below_drewN | apply below_drew1 | refine below_set ?_ GE102.out | refine below_set ?_ GE103.out | refine below_set ?_ GE104.out | refine below_set ?_ GE105.out | refine below_set ?_ GE106.out | refine below_set ?_ GE108.out) | exact HB.out)⟩
              (try clear BK102)
              (try clear BK103)
              (try clear BK104)
              (try clear BK105)
              (try clear BK106)
              (try clear BK108)
              (try clear HB)
              generalize ((((w120.setCell ⟨gb108, 0, none⟩ (.int .i64 a3_1)).setCell ⟨gb108, 1, none⟩ (.int .i64 a3_0)).setCell ⟨gb108, 2, none⟩ (.int .i64 a0_2)).setCell ⟨gb108, 3, none⟩ (.int .i64 a0_3)) = w129 at n0_ n1_ n2_ n3_ n4_ n5_ n6_ ⊢
              have BK102 := n0_
              have BK103 := n1_
              have BK104 := n2_
              have BK105 := n3_
              have BK106 := n4_
              have BK108 := n5_
              have HB := n6_
              clear n0_ n1_ n2_ n3_ n4_ n5_ n6_
              have n0_ := Aside0.mk (blk_drew BK102.out)
              have n1_ := Aside0.mk (blk_drew BK103.out)
              have n2_ := Aside0.mk (blk_drew BK104.out)
              have n3_ := Aside0.mk (blk_drew BK105.out)
              have n4_ := Aside0.mk (blk_drew BK106.out)
              have n5_ := Aside0.mk (blk_drew BK108.out)
              have n6_ := Aside0.mk (below_drew1 HB.out)
              clear BK102
              clear BK103
              clear BK104
              clear BK105
              clear BK106
              clear BK108
              clear HB
              have BK102 := n0_
              have BK103 := n1_
              have BK104 := n2_
              have BK105 := n3_
              have BK106 := n4_
              have BK108 := n5_
              have HB := n6_
              clear n0_ n1_ n2_ n3_ n4_ n5_ n6_
              refine start_ (n := 4) (S := fun w' => w'.cell? ⟨gb102, 0, none⟩ = some (.int .i64 a0_0) ∧ w'.cell? ⟨gb102, 1, none⟩ = some (.int .i64 a0_1) ∧ w'.cell? ⟨gb102, 2, none⟩ = some (.int .i64 a0_2) ∧ w'.cell? ⟨gb102, 3, none⟩ = some (.int .i64 a0_3) ∧ w'.cell? ⟨gb106, 0, none⟩ = some (.int .i64 0) ∧ w'.cell? ⟨gb106, 1, none⟩ = some (.bool false) ∧ w'.cell? ⟨gb106, 2, none⟩ = some (.int .i64 a0_0) ∧ w'.cell? ⟨gb106, 3, none⟩ = some (.int .i64 a3_2)) (ds := []) #[false, false, false, false] (by kernel_rfl) rfl rfl ⟨(blk_cell BK102.out 0).trans rfl, (blk_cell BK102.out 1).trans rfl, (blk_cell BK102.out 2).trans rfl, (blk_cell BK102.out 3).trans rfl, (blk_cell BK106.out 0).trans rfl, (blk_cell BK106.out 1).trans rfl, (blk_cell BK106.out 2).trans rfl, (blk_cell BK106.out 3).trans rfl⟩ (fun hHeld => ?_)
              generalize w129.drew = w130 at BK102 BK103 BK104 BK105 BK106 BK108 HB hHeld ⊢
              refine take_ (i := 0) (N := some 72) (v := ?_) (a' := ?_) #[true, false, false, false] rfl rfl (by kernel_rfl) (fun _ _ _ h => h) (Or.inl ⟨by rfl, ?_⟩) hHeld ?_ ?_
              rotate_left
              · rintro w' ⟨s0, s1, s2, s3, s4, s5, s6, s7⟩
                go_simp
                with_reducible rfl
              rotate_left
              · simp only [Act.put, List.setIfInBounds_toArray, List.set_cons_zero, List.set_cons_succ, i64_w, i32_w]
                rfl
              refine take_ (i := 1) (N := some 73) (v := ?_) (a' := ?_) #[true, true, false, false] rfl rfl (by kernel_rfl) (fun _ _ _ h => h) (Or.inl ⟨by rfl, ?_⟩) hHeld ?_ ?_
              rotate_left
              · rintro w' ⟨s0, s1, s2, s3, s4, s5, s6, s7⟩
                go_simp
                with_reducible rfl
              rotate_left
              · simp only [Act.put, List.setIfInBounds_toArray, List.set_cons_zero, List.set_cons_succ, i64_w, i32_w]
                rfl
              refine one_ (i := 2) (N := none) #[true, true, true, false] rfl rfl (by kernel_rfl) (by decide) (fun K hK => ?_)
              have hs131 : w130.cell? ⟨gb104, 0, none⟩ = some (.int .i64 0) := (blk_cell BK104.out 0).trans rfl
              have hfs131 := blk_frozen BK104.out 0
              have hns131_0 := NB102_104.out
              have hns131_1 := NB103_104.out
              have hns131_3 := NB105_104.out
              have hns131_4 := NB106_104.out
              have hns131_5 := NB108_104.out
              have hms131_0 := NB104_102.out
              have hms131_1 := NB104_103.out
              have hms131_3 := NB104_105.out
              have hms131_4 := NB104_106.out
              have hms131_5 := NB104_108.out
              have hs132 : w130.cell? ⟨gb104, 1, none⟩ = some (.int .i64 0) := (blk_cell BK104.out 1).trans rfl
              have hfs132 := blk_frozen BK104.out 1
              have hns132_0 := NB102_104.out
              have hns132_1 := NB103_104.out
              have hns132_3 := NB105_104.out
              have hns132_4 := NB106_104.out
              have hns132_5 := NB108_104.out
              have hms132_0 := NB104_102.out
              have hms132_1 := NB104_103.out
              have hms132_3 := NB104_105.out
              have hms132_4 := NB104_106.out
              have hms132_5 := NB104_108.out
              have hs133 : w130.cell? ⟨gb104, 2, none⟩ = some (.int .i64 0) := (blk_cell BK104.out 2).trans rfl
              have hfs133 := blk_frozen BK104.out 2
              have hns133_0 := NB102_104.out
              have hns133_1 := NB103_104.out
              have hns133_3 := NB105_104.out
              have hns133_4 := NB106_104.out
              have hns133_5 := NB108_104.out
              have hms133_0 := NB104_102.out
              have hms133_1 := NB104_103.out
              have hms133_3 := NB104_105.out
              have hms133_4 := NB104_106.out
              have hms133_5 := NB104_108.out
              have hs134 : w130.cell? ⟨gb104, 3, none⟩ = some (.int .i64 0) := (blk_cell BK104.out 3).trans rfl
              have hfs134 := blk_frozen BK104.out 3
              have hns134_0 := NB102_104.out
              have hns134_1 := NB103_104.out
              have hns134_3 := NB105_104.out
              have hns134_4 := NB106_104.out
              have hns134_5 := NB108_104.out
              have hms134_0 := NB104_102.out
              have hms134_1 := NB104_103.out
              have hms134_3 := NB104_105.out
              have hms134_4 := NB104_106.out
              have hms134_5 := NB104_108.out
              refine skip_ (w1 := ?_) (by rfl) rfl ?_ ?_
              rotate_left
              · go_simp
                rfl
              refine hK.out _ _ ⟨((cell_far (p := ⟨gb104, _, none⟩) NB102_104.out _).trans (((cell_far (p := ⟨gb104, _, none⟩) NB102_104.out _).trans (((cell_far (p := ⟨gb104, _, none⟩) NB102_104.out _).trans (((cell_far (p := ⟨gb104, _, none⟩) NB102_104.out _).trans (hHeld.1)))))))), ((cell_far (p := ⟨gb104, _, none⟩) NB102_104.out _).trans (((cell_far (p := ⟨gb104, _, none⟩) NB102_104.out _).trans (((cell_far (p := ⟨gb104, _, none⟩) NB102_104.out _).trans (((cell_far (p := ⟨gb104, _, none⟩) NB102_104.out _).trans (hHeld.2.1)))))))), ((cell_far (p := ⟨gb104, _, none⟩) NB102_104.out _).trans (((cell_far (p := ⟨gb104, _, none⟩) NB102_104.out _).trans (((cell_far (p := ⟨gb104, _, none⟩) NB102_104.out _).trans (((cell_far (p := ⟨gb104, _, none⟩) NB102_104.out _).trans (hHeld.2.2.1)))))))), ((cell_far (p := ⟨gb104, _, none⟩) NB102_104.out _).trans (((cell_far (p := ⟨gb104, _, none⟩) NB102_104.out _).trans (((cell_far (p := ⟨gb104, _, none⟩) NB102_104.out _).trans (((cell_far (p := ⟨gb104, _, none⟩) NB102_104.out _).trans (hHeld.2.2.2.1)))))))), ((cell_far (p := ⟨gb104, _, none⟩) NB106_104.out _).trans (((cell_far (p := ⟨gb104, _, none⟩) NB106_104.out _).trans (((cell_far (p := ⟨gb104, _, none⟩) NB106_104.out _).trans (((cell_far (p := ⟨gb104, _, none⟩) NB106_104.out _).trans (hHeld.2.2.2.2.1)))))))), ((cell_far (p := ⟨gb104, _, none⟩) NB106_104.out _).trans (((cell_far (p := ⟨gb104, _, none⟩) NB106_104.out _).trans (((cell_far (p := ⟨gb104, _, none⟩) NB106_104.out _).trans (((cell_far (p := ⟨gb104, _, none⟩) NB106_104.out _).trans (hHeld.2.2.2.2.2.1)))))))), ((cell_far (p := ⟨gb104, _, none⟩) NB106_104.out _).trans (((cell_far (p := ⟨gb104, _, none⟩) NB106_104.out _).trans (((cell_far (p := ⟨gb104, _, none⟩) NB106_104.out _).trans (((cell_far (p := ⟨gb104, _, none⟩) NB106_104.out _).trans (hHeld.2.2.2.2.2.2.1)))))))), ((cell_far (p := ⟨gb104, _, none⟩) NB106_104.out _).trans (((cell_far (p := ⟨gb104, _, none⟩) NB106_104.out _).trans (((cell_far (p := ⟨gb104, _, none⟩) NB106_104.out _).trans (((cell_far (p := ⟨gb104, _, none⟩) NB106_104.out _).trans (hHeld.2.2.2.2.2.2.2))))))))⟩ (fun hHeld => ?_)
              clear hK K
              refine one_ (i := 3) (N := none) #[true, true, true, true] rfl rfl (by kernel_rfl) (by decide) (fun K hK => ?_)
              have hs135 : w130.cell? ⟨gb105, 0, none⟩ = some (.int .i64 0) := (blk_cell BK105.out 0).trans rfl
              have hfs135 := blk_frozen BK105.out 0
              have hns135_0 := NB102_105.out
              have hns135_1 := NB103_105.out
              have hns135_2 := NB104_105.out
              have hns135_4 := NB106_105.out
              have hns135_5 := NB108_105.out
              have hms135_0 := NB105_102.out
              have hms135_1 := NB105_103.out
              have hms135_2 := NB105_104.out
              have hms135_4 := NB105_106.out
              have hms135_5 := NB105_108.out
              have hs136 : w130.cell? ⟨gb105, 1, none⟩ = some (.bool false) := (blk_cell BK105.out 1).trans rfl
              have hfs136 := blk_frozen BK105.out 1
              have hns136_0 := NB102_105.out
              have hns136_1 := NB103_105.out
              have hns136_2 := NB104_105.out
              have hns136_4 := NB106_105.out
              have hns136_5 := NB108_105.out
              have hms136_0 := NB105_102.out
              have hms136_1 := NB105_103.out
              have hms136_2 := NB105_104.out
              have hms136_4 := NB105_106.out
              have hms136_5 := NB105_108.out
              have hs137 : w130.cell? ⟨gb105, 2, none⟩ = some (.int .i64 0) := (blk_cell BK105.out 2).trans rfl
              have hfs137 := blk_frozen BK105.out 2
              have hns137_0 := NB102_105.out
              have hns137_1 := NB103_105.out
              have hns137_2 := NB104_105.out
              have hns137_4 := NB106_105.out
              have hns137_5 := NB108_105.out
              have hms137_0 := NB105_102.out
              have hms137_1 := NB105_103.out
              have hms137_2 := NB105_104.out
              have hms137_4 := NB105_106.out
              have hms137_5 := NB105_108.out
              have hs138 : w130.cell? ⟨gb105, 3, none⟩ = some (.int .i64 0) := (blk_cell BK105.out 3).trans rfl
              have hfs138 := blk_frozen BK105.out 3
              have hns138_0 := NB102_105.out
              have hns138_1 := NB103_105.out
              have hns138_2 := NB104_105.out
              have hns138_4 := NB106_105.out
              have hns138_5 := NB108_105.out
              have hms138_0 := NB105_102.out
              have hms138_1 := NB105_103.out
              have hms138_2 := NB105_104.out
              have hms138_4 := NB105_106.out
              have hms138_5 := NB105_108.out
              refine skip_ (w1 := ?_) (by rfl) rfl ?_ ?_
              rotate_left
              · go_simp
                rfl
              refine hK.out _ _ ⟨((cell_far (p := ⟨gb105, _, none⟩) NB102_105.out _).trans (((cell_far (p := ⟨gb105, _, none⟩) NB102_105.out _).trans (((cell_far (p := ⟨gb105, _, none⟩) NB102_105.out _).trans (((cell_far (p := ⟨gb105, _, none⟩) NB102_105.out _).trans (hHeld.1)))))))), ((cell_far (p := ⟨gb105, _, none⟩) NB102_105.out _).trans (((cell_far (p := ⟨gb105, _, none⟩) NB102_105.out _).trans (((cell_far (p := ⟨gb105, _, none⟩) NB102_105.out _).trans (((cell_far (p := ⟨gb105, _, none⟩) NB102_105.out _).trans (hHeld.2.1)))))))), ((cell_far (p := ⟨gb105, _, none⟩) NB102_105.out _).trans (((cell_far (p := ⟨gb105, _, none⟩) NB102_105.out _).trans (((cell_far (p := ⟨gb105, _, none⟩) NB102_105.out _).trans (((cell_far (p := ⟨gb105, _, none⟩) NB102_105.out _).trans (hHeld.2.2.1)))))))), ((cell_far (p := ⟨gb105, _, none⟩) NB102_105.out _).trans (((cell_far (p := ⟨gb105, _, none⟩) NB102_105.out _).trans (((cell_far (p := ⟨gb105, _, none⟩) NB102_105.out _).trans (((cell_far (p := ⟨gb105, _, none⟩) NB102_105.out _).trans (hHeld.2.2.2.1)))))))), ((cell_far (p := ⟨gb105, _, none⟩) NB106_105.out _).trans (((cell_far (p := ⟨gb105, _, none⟩) NB106_105.out _).trans (((cell_far (p := ⟨gb105, _, none⟩) NB106_105.out _).trans (((cell_far (p := ⟨gb105, _, none⟩) NB106_105.out _).trans (hHeld.2.2.2.2.1)))))))), ((cell_far (p := ⟨gb105, _, none⟩) NB106_105.out _).trans (((cell_far (p := ⟨gb105, _, none⟩) NB106_105.out _).trans (((cell_far (p := ⟨gb105, _, none⟩) NB106_105.out _).trans (((cell_far (p := ⟨gb105, _, none⟩) NB106_105.out _).trans (hHeld.2.2.2.2.2.1)))))))), ((cell_far (p := ⟨gb105, _, none⟩) NB106_105.out _).trans (((cell_far (p := ⟨gb105, _, none⟩) NB106_105.out _).trans (((cell_far (p := ⟨gb105, _, none⟩) NB106_105.out _).trans (((cell_far (p := ⟨gb105, _, none⟩) NB106_105.out _).trans (hHeld.2.2.2.2.2.2.1)))))))), ((cell_far (p := ⟨gb105, _, none⟩) NB106_105.out _).trans (((cell_far (p := ⟨gb105, _, none⟩) NB106_105.out _).trans (((cell_far (p := ⟨gb105, _, none⟩) NB106_105.out _).trans (((cell_far (p := ⟨gb105, _, none⟩) NB106_105.out _).trans (hHeld.2.2.2.2.2.2.2))))))))⟩ (fun hHeld => ?_)
              clear hK K
              refine done_ (by kernel_rfl) ?_
              try go_wp2
              refine bodyPost_ret (results_cc rfl _ _ gb104 gb105 25 32 #[.int .i64 a0_0, .int .i64 a0_1, .int .i64 a0_2, .int .i64 a0_3] #[.int .i64 0, .bool false, .int .i64 a0_0, .int .i64 a3_2] (0, 0) (0, 0) _ _ rfl (by (with_reducible repeat (first | refine blk_drewN ?_ _ | refine blk_drew ?_ | refine blk_alloc ?_ _)); refine blk_far ?_ NB104_105.out _; (with_reducible repeat (first | refine blk_drewN ?_ _ | refine blk_drew ?_ | refine blk_alloc ?_ _)); refine blk_far ?_ NB104_105.out _; (with_reducible repeat (first | refine blk_drewN ?_ _ | refine blk_drew ?_ | refine blk_alloc ?_ _)); refine blk_far ?_ NB104_105.out _; (with_reducible repeat (first | refine blk_drewN ?_ _ | refine blk_drew ?_ | refine blk_alloc ?_ _)); refine blk_far ?_ NB104_105.out _; (with_reducible repeat (first | refine blk_drewN ?_ _ | refine blk_drew ?_ | refine blk_alloc ?_ _)); refine blk_put (cs := #[.int .i64 a0_0, .int .i64 a0_1, .int .i64 a0_2, .int .i64 0]) ?_ 3 _ rfl; (with_reducible repeat (first | refine blk_drewN ?_ _ | refine blk_drew ?_ | refine blk_alloc ?_ _)); refine blk_put (cs := #[.int .i64 a0_0, .int .i64 a0_1, .int .i64 0, .int .i64 0]) ?_ 2 _ rfl; (with_reducible repeat (first | refine blk_drewN ?_ _ | refine blk_drew ?_ | refine blk_alloc ?_ _)); refine blk_put (cs := #[.int .i64 a0_0, .int .i64 0, .int .i64 0, .int .i64 0]) ?_ 1 _ rfl; (with_reducible repeat (first | refine blk_drewN ?_ _ | refine blk_drew ?_ | refine blk_alloc ?_ _)); refine blk_put (cs := #[.int .i64 0, .int .i64 0, .int .i64 0, .int .i64 0]) ?_ 0 _ rfl; (with_reducible repeat (first | refine blk_drewN ?_ _ | refine blk_drew ?_ | refine blk_alloc ?_ _)); exact BK104.out) Try.underlying25 rfl (by kernel_rfl) rfl (by (with_reducible repeat (first | refine blk_drewN ?_ _ | refine blk_drew ?_ | refine blk_alloc ?_ _)); refine blk_put (cs := #[.int .i64 0, .bool false, .int .i64 a0_0, .int .i64 0]) ?_ 3 _ rfl; (with_reducible repeat (first | refine blk_drewN ?_ _ | refine blk_drew ?_ | refine blk_alloc ?_ _)); refine blk_put (cs := #[.int .i64 0, .bool false, .int .i64 0, .int .i64 0]) ?_ 2 _ rfl; (with_reducible repeat (first | refine blk_drewN ?_ _ | refine blk_drew ?_ | refine blk_alloc ?_ _)); refine blk_put (cs := #[.int .i64 0, .bool false, .int .i64 0, .int .i64 0]) ?_ 1 _ rfl; (with_reducible repeat (first | refine blk_drewN ?_ _ | refine blk_drew ?_ | refine blk_alloc ?_ _)); refine blk_put (cs := #[.int .i64 0, .bool false, .int .i64 0, .int .i64 0]) ?_ 0 _ rfl; (with_reducible repeat (first | refine blk_drewN ?_ _ | refine blk_drew ?_ | refine blk_alloc ?_ _)); refine blk_far ?_ NB105_104.out _; (with_reducible repeat (first | refine blk_drewN ?_ _ | refine blk_drew ?_ | refine blk_alloc ?_ _)); refine blk_far ?_ NB105_104.out _; (with_reducible repeat (first | refine blk_drewN ?_ _ | refine blk_drew ?_ | refine blk_alloc ?_ _)); refine blk_far ?_ NB105_104.out _; (with_reducible repeat (first | refine blk_drewN ?_ _ | refine blk_drew ?_ | refine blk_alloc ?_ _)); refine blk_far ?_ NB105_104.out _; (with_reducible repeat (first | refine blk_drewN ?_ _ | refine blk_drew ?_ | refine blk_alloc ?_ _)); exact BK105.out) Try.underlying32 rfl (by kernel_rfl)) rfl ?_
              exact ⟨by first | rfl | (simp [errW_none, errW_some] <;> rfl) | (simp [*, errW_none, errW_some] <;> rfl), by repeat (first | (with_reducible first | exact HB.out | apply below_alloc | apply pw_below_drewN | apply below_drew1 | refine below_set ?_ GE102.out | refine below_set ?_ GE103.out | refine below_set ?_ GE104.out | refine below_set ?_ GE105.out | refine below_set ?_ GE106.out | refine below_set ?_ GE108.out) | exact HB.out)⟩
            · rw [if_neg c110] at H
              have c110b0 : decide (a3_1 ≤ a0_0) = false := decide_eq_false c110
              clear c110
              simp only [Option.some.injEq, Prod.mk.injEq] at H
              obtain ⟨rfl, rfl, rfl, rfl, rfl, rfl, rfl, rfl⟩ := H
              have hnb139 := NB103_102.out
              have hnc139 := NB102_103.out
              have hnb140 := NB103_104.out
              have hnc140 := NB104_103.out
              have hnb141 := NB103_105.out
              have hnc141 := NB105_103.out
              have hnb142 := NB103_106.out
              have hnc142 := NB106_103.out
              have hcz143_0 : wc.cell? ⟨gb103, 0, none⟩ = some (.int .i64 a3_0) := (blk_cell BK103.out 0).trans rfl
              have hcz143_1 : wc.cell? ⟨gb103, 1, none⟩ = some (.int .i64 a3_1) := (blk_cell BK103.out 1).trans rfl
              have hcz143_2 : wc.cell? ⟨gb103, 2, none⟩ = some (.int .i64 a3_2) := (blk_cell BK103.out 2).trans rfl
              have hfz143_0 := blk_frozen BK103.out 0
              have hfz143_1 := blk_frozen BK103.out 1
              have hfz143_2 := blk_frozen BK103.out 2
              have hnb144 := NB102_104.out
              have hnc144 := NB104_102.out
              have hnb145 := NB102_105.out
              have hnc145 := NB105_102.out
              have hnb146 := NB102_106.out
              have hnc146 := NB106_102.out
              have hcz147_0 : wc.cell? ⟨gb102, 0, none⟩ = some (.int .i64 a0_0) := (blk_cell BK102.out 0).trans rfl
              have hcz147_1 : wc.cell? ⟨gb102, 1, none⟩ = some (.int .i64 a0_1) := (blk_cell BK102.out 1).trans rfl
              have hcz147_2 : wc.cell? ⟨gb102, 2, none⟩ = some (.int .i64 a0_2) := (blk_cell BK102.out 2).trans rfl
              have hcz147_3 : wc.cell? ⟨gb102, 3, none⟩ = some (.int .i64 a0_3) := (blk_cell BK102.out 3).trans rfl
              have hfz147_0 := blk_frozen BK102.out 0
              have hfz147_1 := blk_frozen BK102.out 1
              have hfz147_2 := blk_frozen BK102.out 2
              have hfz147_3 := blk_frozen BK102.out 3
              try go_wp2_with (first | ((with_reducible refine gate_dst (N := 11) rfl ?_); refine box_event ?hg (N := 11) ?hd (cs := #[.int .i64 0, .int .i64 0, .int .i64 0, .int .i64 0]) (t := 25) ?hr ?_; (case hd => rfl); (case hg => rfl); (case hr => first | (go_simp; done) | (go_simp; rfl)); intro gb108 hg w148 hbox hb; have n0_ := Aside0.mk (blk_below (g := gb102) (o := .cells #[.int .i64 a0_0, .int .i64 a0_1, .int .i64 a0_2, .int .i64 a0_3] 25 (0, 0)) (by (with_reducible repeat (first | refine blk_drewN ?_ _ | refine blk_drew ?_ | refine blk_alloc ?_ _)); exact BK102.out) hb); have n1_ := Aside0.mk (blk_below (g := gb103) (o := .cells #[.int .i64 a3_0, .int .i64 a3_1, .int .i64 a3_2] 28 (0, 0)) (by (with_reducible repeat (first | refine blk_drewN ?_ _ | refine blk_drew ?_ | refine blk_alloc ?_ _)); exact BK103.out) hb); have n2_ := Aside0.mk (blk_below (g := gb104) (o := .cells #[.int .i64 0, .int .i64 0, .int .i64 0, .int .i64 0] 25 (0, 0)) (by (with_reducible repeat (first | refine blk_drewN ?_ _ | refine blk_drew ?_ | refine blk_alloc ?_ _)); exact BK104.out) hb); have n3_ := Aside0.mk (blk_below (g := gb105) (o := .cells #[.int .i64 0, .bool false, .int .i64 0, .int .i64 0] 32 (0, 0)) (by (with_reducible repeat (first | refine blk_drewN ?_ _ | refine blk_drew ?_ | refine blk_alloc ?_ _)); exact BK105.out) hb); have n4_ := Aside0.mk (blk_below (g := gb106) (o := .cells #[.int .i64 0, .bool false, .int .i64 a0_0, .int .i64 a3_2] 32 (0, 0)) (by (with_reducible repeat (first | refine blk_drewN ?_ _ | refine blk_drew ?_ | refine blk_alloc ?_ _)); exact BK106.out) hb); have n5_ := Aside0.mk (below_step (by repeat (first | (with_reducible first | exact HB.out | apply below_alloc | apply pw_below_drewN | apply below_drew1 | refine below_set ?_ GE102.out | refine below_set ?_ GE103.out | refine below_set ?_ GE104.out | refine below_set ?_ GE105.out | refine below_set ?_ GE106.out) | exact HB.out)) hb); have n6_ := Aside0.mk (hbox); have n7_ := Aside0.mk ((by rw [hg]; exact (below_size (by repeat (first | (with_reducible first | exact HB.out | apply below_alloc | apply pw_below_drewN | apply below_drew1 | refine below_set ?_ GE102.out | refine below_set ?_ GE103.out | refine below_set ?_ GE104.out | refine below_set ?_ GE105.out | refine below_set ?_ GE106.out) | exact HB.out))) : w.heap.size ≤ gb108)); have n8_ := Aside0.mk ((by rw [hg]; exact (below_size (by repeat (first | (with_reducible first | exact HB.out | apply below_alloc | apply pw_below_drewN | apply below_drew1 | refine below_set ?_ GE102.out | refine below_set ?_ GE103.out | refine below_set ?_ GE104.out | refine below_set ?_ GE105.out | refine below_set ?_ GE106.out) | exact HB.out))) : w.heap.size ≤ gb108)); have n9_ := Aside0.mk ((by rw [hg]; exact Nat.ne_of_lt (blk_lt (g := gb102) (o := .cells #[.int .i64 a0_0, .int .i64 a0_1, .int .i64 a0_2, .int .i64 a0_3] 25 (0, 0)) (by (with_reducible repeat (first | refine blk_drewN ?_ _ | refine blk_drew ?_ | refine blk_alloc ?_ _)); exact BK102.out)) : gb102 ≠ gb108)); have n10_ := Aside0.mk ((by rw [hg]; exact Nat.ne_of_gt (blk_lt (g := gb102) (o := .cells #[.int .i64 a0_0, .int .i64 a0_1, .int .i64 a0_2, .int .i64 a0_3] 25 (0, 0)) (by (with_reducible repeat (first | refine blk_drewN ?_ _ | refine blk_drew ?_ | refine blk_alloc ?_ _)); exact BK102.out)) : gb108 ≠ gb102)); have n11_ := Aside0.mk ((by rw [hg]; exact Nat.ne_of_lt (blk_lt (g := gb103) (o := .cells #[.int .i64 a3_0, .int .i64 a3_1, .int .i64 a3_2] 28 (0, 0)) (by (with_reducible repeat (first | refine blk_drewN ?_ _ | refine blk_drew ?_ | refine blk_alloc ?_ _)); exact BK103.out)) : gb103 ≠ gb108)); have n12_ := Aside0.mk ((by rw [hg]; exact Nat.ne_of_gt (blk_lt (g := gb103) (o := .cells #[.int .i64 a3_0, .int .i64 a3_1, .int .i64 a3_2] 28 (0, 0)) (by (with_reducible repeat (first | refine blk_drewN ?_ _ | refine blk_drew ?_ | refine blk_alloc ?_ _)); exact BK103.out)) : gb108 ≠ gb103)); have n13_ := Aside0.mk ((by rw [hg]; exact Nat.ne_of_lt (blk_lt (g := gb104) (o := .cells #[.int .i64 0, .int .i64 0, .int .i64 0, .int .i64 0] 25 (0, 0)) (by (with_reducible repeat (first | refine blk_drewN ?_ _ | refine blk_drew ?_ | refine blk_alloc ?_ _)); exact BK104.out)) : gb104 ≠ gb108)); have n14_ := Aside0.mk ((by rw [hg]; exact Nat.ne_of_gt (blk_lt (g := gb104) (o := .cells #[.int .i64 0, .int .i64 0, .int .i64 0, .int .i64 0] 25 (0, 0)) (by (with_reducible repeat (first | refine blk_drewN ?_ _ | refine blk_drew ?_ | refine blk_alloc ?_ _)); exact BK104.out)) : gb108 ≠ gb104)); have n15_ := Aside0.mk ((by rw [hg]; exact Nat.ne_of_lt (blk_lt (g := gb105) (o := .cells #[.int .i64 0, .bool false, .int .i64 0, .int .i64 0] 32 (0, 0)) (by (with_reducible repeat (first | refine blk_drewN ?_ _ | refine blk_drew ?_ | refine blk_alloc ?_ _)); exact BK105.out)) : gb105 ≠ gb108)); have n16_ := Aside0.mk ((by rw [hg]; exact Nat.ne_of_gt (blk_lt (g := gb105) (o := .cells #[.int .i64 0, .bool false, .int .i64 0, .int .i64 0] 32 (0, 0)) (by (with_reducible repeat (first | refine blk_drewN ?_ _ | refine blk_drew ?_ | refine blk_alloc ?_ _)); exact BK105.out)) : gb108 ≠ gb105)); have n17_ := Aside0.mk ((by rw [hg]; exact Nat.ne_of_lt (blk_lt (g := gb106) (o := .cells #[.int .i64 0, .bool false, .int .i64 a0_0, .int .i64 a3_2] 32 (0, 0)) (by (with_reducible repeat (first | refine blk_drewN ?_ _ | refine blk_drew ?_ | refine blk_alloc ?_ _)); exact BK106.out)) : gb106 ≠ gb108)); have n18_ := Aside0.mk ((by rw [hg]; exact Nat.ne_of_gt (blk_lt (g := gb106) (o := .cells #[.int .i64 0, .bool false, .int .i64 a0_0, .int .i64 a3_2] 32 (0, 0)) (by (with_reducible repeat (first | refine blk_drewN ?_ _ | refine blk_drew ?_ | refine blk_alloc ?_ _)); exact BK106.out)) : gb108 ≠ gb106)); clear BK102; clear BK103; clear BK104; clear BK105; clear BK106; clear HB; have BK102 := n0_; have BK103 := n1_; have BK104 := n2_; have BK105 := n3_; have BK106 := n4_; have HB := n5_; have BK108 := n6_; have GW108 := n7_; have GE108 := n8_; have NB102_108 := n9_; have NB108_102 := n10_; have NB103_108 := n11_; have NB108_103 := n12_; have NB104_108 := n13_; have NB108_104 := n14_; have NB105_108 := n15_; have NB108_105 := n16_; have NB106_108 := n17_; have NB108_106 := n18_; clear n0_ n1_ n2_ n3_ n4_ n5_ n6_ n7_ n8_ n9_ n10_ n11_ n12_ n13_ n14_ n15_ n16_ n17_ n18_; clear hb hbox hg; have hnb149 := NB108_102.out; have hnc149 := NB102_108.out; have hnb150 := NB108_103.out; have hnc150 := NB103_108.out; have hnb151 := NB108_104.out; have hnc151 := NB104_108.out; have hnb152 := NB108_105.out; have hnc152 := NB105_108.out; have hnb153 := NB108_106.out; have hnc153 := NB106_108.out; have hcz154_0 : w148.cell? ⟨gb108, 0, none⟩ = some (.int .i64 0) := (blk_cell BK108.out 0).trans rfl; have hcz154_1 : w148.cell? ⟨gb108, 1, none⟩ = some (.int .i64 0) := (blk_cell BK108.out 1).trans rfl; have hcz154_2 : w148.cell? ⟨gb108, 2, none⟩ = some (.int .i64 0) := (blk_cell BK108.out 2).trans rfl; have hcz154_3 : w148.cell? ⟨gb108, 3, none⟩ = some (.int .i64 0) := (blk_cell BK108.out 3).trans rfl; have hfz154_0 := blk_frozen BK108.out 0; have hfz154_1 := blk_frozen BK108.out 1; have hfz154_2 := blk_frozen BK108.out 2; have hfz154_3 := blk_frozen BK108.out 3; have hcz155_0 : w148.cell? ⟨gb102, 0, none⟩ = some (.int .i64 a0_0) := (blk_cell BK102.out 0).trans rfl; have hcz155_1 : w148.cell? ⟨gb102, 1, none⟩ = some (.int .i64 a0_1) := (blk_cell BK102.out 1).trans rfl; have hcz155_2 : w148.cell? ⟨gb102, 2, none⟩ = some (.int .i64 a0_2) := (blk_cell BK102.out 2).trans rfl; have hcz155_3 : w148.cell? ⟨gb102, 3, none⟩ = some (.int .i64 a0_3) := (blk_cell BK102.out 3).trans rfl; have hfz155_0 := blk_frozen BK102.out 0; have hfz155_1 := blk_frozen BK102.out 1; have hfz155_2 := blk_frozen BK102.out 2; have hfz155_3 := blk_frozen BK102.out 3; have hcz156_0 : w148.cell? ⟨gb103, 0, none⟩ = some (.int .i64 a3_0) := (blk_cell BK103.out 0).trans rfl; have hcz156_1 : w148.cell? ⟨gb103, 1, none⟩ = some (.int .i64 a3_1) := (blk_cell BK103.out 1).trans rfl; have hcz156_2 : w148.cell? ⟨gb103, 2, none⟩ = some (.int .i64 a3_2) := (blk_cell BK103.out 2).trans rfl; have hfz156_0 := blk_frozen BK103.out 0; have hfz156_1 := blk_frozen BK103.out 1; have hfz156_2 := blk_frozen BK103.out 2))
              have n0_ : Aside0 (((((((w148.setCell ⟨gb108, 0, none⟩ (.int .i64 a3_1)).setCell ⟨gb108, 1, none⟩ (.int .i64 a3_0)).setCell ⟨gb108, 2, none⟩ (.int .i64 a0_2)).setCell ⟨gb108, 3, none⟩ (.int .i64 a0_3)).setCell ⟨gb108, 3, none⟩ (.int .i64 a3_2)).setCell ⟨gb108, 2, none⟩ (.int .i64 (wrap64 (a1 + a2)))).heap[gb102]? = some (.cells #[.int .i64 a0_0, .int .i64 a0_1, .int .i64 a0_2, .int .i64 a0_3] 25 (0, 0))) := ⟨by (with_reducible repeat (first | refine blk_drewN ?_ _ | refine blk_drew ?_ | refine blk_alloc ?_ _)); refine blk_far ?_ NB102_108.out _; (with_reducible repeat (first | refine blk_drewN ?_ _ | refine blk_drew ?_ | refine blk_alloc ?_ _)); refine blk_far ?_ NB102_108.out _; (with_reducible repeat (first | refine blk_drewN ?_ _ | refine blk_drew ?_ | refine blk_alloc ?_ _)); refine blk_far ?_ NB102_108.out _; (with_reducible repeat (first | refine blk_drewN ?_ _ | refine blk_drew ?_ | refine blk_alloc ?_ _)); refine blk_far ?_ NB102_108.out _; (with_reducible repeat (first | refine blk_drewN ?_ _ | refine blk_drew ?_ | refine blk_alloc ?_ _)); refine blk_far ?_ NB102_108.out _; (with_reducible repeat (first | refine blk_drewN ?_ _ | refine blk_drew ?_ | refine blk_alloc ?_ _)); refine blk_far ?_ NB102_108.out _; (with_reducible repeat (first | refine blk_drewN ?_ _ | refine blk_drew ?_ | refine blk_alloc ?_ _)); exact BK102.out⟩
              have n1_ : Aside0 (((((((w148.setCell ⟨gb108, 0, none⟩ (.int .i64 a3_1)).setCell ⟨gb108, 1, none⟩ (.int .i64 a3_0)).setCell ⟨gb108, 2, none⟩ (.int .i64 a0_2)).setCell ⟨gb108, 3, none⟩ (.int .i64 a0_3)).setCell ⟨gb108, 3, none⟩ (.int .i64 a3_2)).setCell ⟨gb108, 2, none⟩ (.int .i64 (wrap64 (a1 + a2)))).heap[gb103]? = some (.cells #[.int .i64 a3_0, .int .i64 a3_1, .int .i64 a3_2] 28 (0, 0))) := ⟨by (with_reducible repeat (first | refine blk_drewN ?_ _ | refine blk_drew ?_ | refine blk_alloc ?_ _)); refine blk_far ?_ NB103_108.out _; (with_reducible repeat (first | refine blk_drewN ?_ _ | refine blk_drew ?_ | refine blk_alloc ?_ _)); refine blk_far ?_ NB103_108.out _; (with_reducible repeat (first | refine blk_drewN ?_ _ | refine blk_drew ?_ | refine blk_alloc ?_ _)); refine blk_far ?_ NB103_108.out _; (with_reducible repeat (first | refine blk_drewN ?_ _ | refine blk_drew ?_ | refine blk_alloc ?_ _)); refine blk_far ?_ NB103_108.out _; (with_reducible repeat (first | refine blk_drewN ?_ _ | refine blk_drew ?_ | refine blk_alloc ?_ _)); refine blk_far ?_ NB103_108.out _; (with_reducible repeat (first | refine blk_drewN ?_ _ | refine blk_drew ?_ | refine blk_alloc ?_ _)); refine blk_far ?_ NB103_108.out _; (with_reducible repeat (first | refine blk_drewN ?_ _ | refine blk_drew ?_ | refine blk_alloc ?_ _)); exact BK103.out⟩
              have n2_ : Aside0 (((((((w148.setCell ⟨gb108, 0, none⟩ (.int .i64 a3_1)).setCell ⟨gb108, 1, none⟩ (.int .i64 a3_0)).setCell ⟨gb108, 2, none⟩ (.int .i64 a0_2)).setCell ⟨gb108, 3, none⟩ (.int .i64 a0_3)).setCell ⟨gb108, 3, none⟩ (.int .i64 a3_2)).setCell ⟨gb108, 2, none⟩ (.int .i64 (wrap64 (a1 + a2)))).heap[gb104]? = some (.cells #[.int .i64 0, .int .i64 0, .int .i64 0, .int .i64 0] 25 (0, 0))) := ⟨by (with_reducible repeat (first | refine blk_drewN ?_ _ | refine blk_drew ?_ | refine blk_alloc ?_ _)); refine blk_far ?_ NB104_108.out _; (with_reducible repeat (first | refine blk_drewN ?_ _ | refine blk_drew ?_ | refine blk_alloc ?_ _)); refine blk_far ?_ NB104_108.out _; (with_reducible repeat (first | refine blk_drewN ?_ _ | refine blk_drew ?_ | refine blk_alloc ?_ _)); refine blk_far ?_ NB104_108.out _; (with_reducible repeat (first | refine blk_drewN ?_ _ | refine blk_drew ?_ | refine blk_alloc ?_ _)); refine blk_far ?_ NB104_108.out _; (with_reducible repeat (first | refine blk_drewN ?_ _ | refine blk_drew ?_ | refine blk_alloc ?_ _)); refine blk_far ?_ NB104_108.out _; (with_reducible repeat (first | refine blk_drewN ?_ _ | refine blk_drew ?_ | refine blk_alloc ?_ _)); refine blk_far ?_ NB104_108.out _; (with_reducible repeat (first | refine blk_drewN ?_ _ | refine blk_drew ?_ | refine blk_alloc ?_ _)); exact BK104.out⟩
              have n3_ : Aside0 (((((((w148.setCell ⟨gb108, 0, none⟩ (.int .i64 a3_1)).setCell ⟨gb108, 1, none⟩ (.int .i64 a3_0)).setCell ⟨gb108, 2, none⟩ (.int .i64 a0_2)).setCell ⟨gb108, 3, none⟩ (.int .i64 a0_3)).setCell ⟨gb108, 3, none⟩ (.int .i64 a3_2)).setCell ⟨gb108, 2, none⟩ (.int .i64 (wrap64 (a1 + a2)))).heap[gb105]? = some (.cells #[.int .i64 0, .bool false, .int .i64 0, .int .i64 0] 32 (0, 0))) := ⟨by (with_reducible repeat (first | refine blk_drewN ?_ _ | refine blk_drew ?_ | refine blk_alloc ?_ _)); refine blk_far ?_ NB105_108.out _; (with_reducible repeat (first | refine blk_drewN ?_ _ | refine blk_drew ?_ | refine blk_alloc ?_ _)); refine blk_far ?_ NB105_108.out _; (with_reducible repeat (first | refine blk_drewN ?_ _ | refine blk_drew ?_ | refine blk_alloc ?_ _)); refine blk_far ?_ NB105_108.out _; (with_reducible repeat (first | refine blk_drewN ?_ _ | refine blk_drew ?_ | refine blk_alloc ?_ _)); refine blk_far ?_ NB105_108.out _; (with_reducible repeat (first | refine blk_drewN ?_ _ | refine blk_drew ?_ | refine blk_alloc ?_ _)); refine blk_far ?_ NB105_108.out _; (with_reducible repeat (first | refine blk_drewN ?_ _ | refine blk_drew ?_ | refine blk_alloc ?_ _)); refine blk_far ?_ NB105_108.out _; (with_reducible repeat (first | refine blk_drewN ?_ _ | refine blk_drew ?_ | refine blk_alloc ?_ _)); exact BK105.out⟩
              have n4_ : Aside0 (((((((w148.setCell ⟨gb108, 0, none⟩ (.int .i64 a3_1)).setCell ⟨gb108, 1, none⟩ (.int .i64 a3_0)).setCell ⟨gb108, 2, none⟩ (.int .i64 a0_2)).setCell ⟨gb108, 3, none⟩ (.int .i64 a0_3)).setCell ⟨gb108, 3, none⟩ (.int .i64 a3_2)).setCell ⟨gb108, 2, none⟩ (.int .i64 (wrap64 (a1 + a2)))).heap[gb106]? = some (.cells #[.int .i64 0, .bool false, .int .i64 a0_0, .int .i64 a3_2] 32 (0, 0))) := ⟨by (with_reducible repeat (first | refine blk_drewN ?_ _ | refine blk_drew ?_ | refine blk_alloc ?_ _)); refine blk_far ?_ NB106_108.out _; (with_reducible repeat (first | refine blk_drewN ?_ _ | refine blk_drew ?_ | refine blk_alloc ?_ _)); refine blk_far ?_ NB106_108.out _; (with_reducible repeat (first | refine blk_drewN ?_ _ | refine blk_drew ?_ | refine blk_alloc ?_ _)); refine blk_far ?_ NB106_108.out _; (with_reducible repeat (first | refine blk_drewN ?_ _ | refine blk_drew ?_ | refine blk_alloc ?_ _)); refine blk_far ?_ NB106_108.out _; (with_reducible repeat (first | refine blk_drewN ?_ _ | refine blk_drew ?_ | refine blk_alloc ?_ _)); refine blk_far ?_ NB106_108.out _; (with_reducible repeat (first | refine blk_drewN ?_ _ | refine blk_drew ?_ | refine blk_alloc ?_ _)); refine blk_far ?_ NB106_108.out _; (with_reducible repeat (first | refine blk_drewN ?_ _ | refine blk_drew ?_ | refine blk_alloc ?_ _)); exact BK106.out⟩
              have n5_ : Aside0 (((((((w148.setCell ⟨gb108, 0, none⟩ (.int .i64 a3_1)).setCell ⟨gb108, 1, none⟩ (.int .i64 a3_0)).setCell ⟨gb108, 2, none⟩ (.int .i64 a0_2)).setCell ⟨gb108, 3, none⟩ (.int .i64 a0_3)).setCell ⟨gb108, 3, none⟩ (.int .i64 a3_2)).setCell ⟨gb108, 2, none⟩ (.int .i64 (wrap64 (a1 + a2)))).heap[gb108]? = some (.cells #[.int .i64 a3_1, .int .i64 a3_0, .int .i64 (wrap64 (a1 + a2)), .int .i64 a3_2] 25 (0, 0))) := ⟨by (with_reducible repeat (first | refine blk_drewN ?_ _ | refine blk_drew ?_ | refine blk_alloc ?_ _)); refine blk_put (cs := #[.int .i64 a3_1, .int .i64 a3_0, .int .i64 a0_2, .int .i64 a3_2]) ?_ 2 _ rfl; (with_reducible repeat (first | refine blk_drewN ?_ _ | refine blk_drew ?_ | refine blk_alloc ?_ _)); refine blk_put (cs := #[.int .i64 a3_1, .int .i64 a3_0, .int .i64 a0_2, .int .i64 a0_3]) ?_ 3 _ rfl; (with_reducible repeat (first | refine blk_drewN ?_ _ | refine blk_drew ?_ | refine blk_alloc ?_ _)); refine blk_put (cs := #[.int .i64 a3_1, .int .i64 a3_0, .int .i64 a0_2, .int .i64 0]) ?_ 3 _ rfl; (with_reducible repeat (first | refine blk_drewN ?_ _ | refine blk_drew ?_ | refine blk_alloc ?_ _)); refine blk_put (cs := #[.int .i64 a3_1, .int .i64 a3_0, .int .i64 0, .int .i64 0]) ?_ 2 _ rfl; (with_reducible repeat (first | refine blk_drewN ?_ _ | refine blk_drew ?_ | refine blk_alloc ?_ _)); refine blk_put (cs := #[.int .i64 a3_1, .int .i64 0, .int .i64 0, .int .i64 0]) ?_ 1 _ rfl; (with_reducible repeat (first | refine blk_drewN ?_ _ | refine blk_drew ?_ | refine blk_alloc ?_ _)); refine blk_put (cs := #[.int .i64 0, .int .i64 0, .int .i64 0, .int .i64 0]) ?_ 0 _ rfl; (with_reducible repeat (first | refine blk_drewN ?_ _ | refine blk_drew ?_ | refine blk_alloc ?_ _)); exact BK108.out⟩
              have n6_ : Aside0 (Below w.heap.size w ((((((w148.setCell ⟨gb108, 0, none⟩ (.int .i64 a3_1)).setCell ⟨gb108, 1, none⟩ (.int .i64 a3_0)).setCell ⟨gb108, 2, none⟩ (.int .i64 a0_2)).setCell ⟨gb108, 3, none⟩ (.int .i64 a0_3)).setCell ⟨gb108, 3, none⟩ (.int .i64 a3_2)).setCell ⟨gb108, 2, none⟩ (.int .i64 (wrap64 (a1 + a2))))) := ⟨by repeat (first | (with_reducible first | exact HB.out | apply below_alloc | apply pw_below_drewN | apply below_drew1 | refine below_set ?_ GE102.out | refine below_set ?_ GE103.out | refine below_set ?_ GE104.out | refine below_set ?_ GE105.out | refine below_set ?_ GE106.out | refine below_set ?_ GE108.out) | exact HB.out)⟩
              (try clear BK102)
              (try clear BK103)
              (try clear BK104)
              (try clear BK105)
              (try clear BK106)
              (try clear BK108)
              (try clear HB)
              generalize ((((((w148.setCell ⟨gb108, 0, none⟩ (.int .i64 a3_1)).setCell ⟨gb108, 1, none⟩ (.int .i64 a3_0)).setCell ⟨gb108, 2, none⟩ (.int .i64 a0_2)).setCell ⟨gb108, 3, none⟩ (.int .i64 a0_3)).setCell ⟨gb108, 3, none⟩ (.int .i64 a3_2)).setCell ⟨gb108, 2, none⟩ (.int .i64 (wrap64 (a1 + a2)))) = w157 at n0_ n1_ n2_ n3_ n4_ n5_ n6_ ⊢
              have BK102 := n0_
              have BK103 := n1_
              have BK104 := n2_
              have BK105 := n3_
              have BK106 := n4_
              have BK108 := n5_
              have HB := n6_
              clear n0_ n1_ n2_ n3_ n4_ n5_ n6_
              have n0_ := Aside0.mk (blk_drew BK102.out)
              have n1_ := Aside0.mk (blk_drew BK103.out)
              have n2_ := Aside0.mk (blk_drew BK104.out)
              have n3_ := Aside0.mk (blk_drew BK105.out)
              have n4_ := Aside0.mk (blk_drew BK106.out)
              have n5_ := Aside0.mk (blk_drew BK108.out)
              have n6_ := Aside0.mk (below_drew1 HB.out)
              clear BK102
              clear BK103
              clear BK104
              clear BK105
              clear BK106
              clear BK108
              clear HB
              have BK102 := n0_
              have BK103 := n1_
              have BK104 := n2_
              have BK105 := n3_
              have BK106 := n4_
              have BK108 := n5_
              have HB := n6_
              clear n0_ n1_ n2_ n3_ n4_ n5_ n6_
              refine start_ (n := 8) (S := fun w' => w'.cell? ⟨gb108, 0, none⟩ = some (.int .i64 a3_1) ∧ w'.cell? ⟨gb108, 1, none⟩ = some (.int .i64 a3_0) ∧ w'.cell? ⟨gb108, 2, none⟩ = some (.int .i64 (wrap64 (a1 + a2))) ∧ w'.cell? ⟨gb108, 3, none⟩ = some (.int .i64 a3_2) ∧ w'.cell? ⟨gb103, 0, none⟩ = some (.int .i64 a3_0) ∧ w'.cell? ⟨gb103, 1, none⟩ = some (.int .i64 a3_1) ∧ w'.cell? ⟨gb103, 2, none⟩ = some (.int .i64 a3_2)) (ds := []) #[false, false, false, false, false, false, false, false] (by kernel_rfl) rfl rfl ⟨(blk_cell BK108.out 0).trans rfl, (blk_cell BK108.out 1).trans rfl, (blk_cell BK108.out 2).trans rfl, (blk_cell BK108.out 3).trans rfl, (blk_cell BK103.out 0).trans rfl, (blk_cell BK103.out 1).trans rfl, (blk_cell BK103.out 2).trans rfl⟩ (fun hHeld => ?_); refine with_tabW ballot_Hear.tab11 ballot_Hear.bits11 (fun HT_ HW_ => ?_)
              generalize w157.drew = w158 at BK102 BK103 BK104 BK105 BK106 BK108 HB hHeld ⊢
              refine pure_ (i := 1) (N := some 79) (v := ?_) (a' := ?_) #[false, true, false, false, false, false, false, false] rfl rfl (any_of HT_.out (by kernel_rfl)) (fun _ _ _ h => h) (Or.inl ⟨by rfl, ?_⟩) ?_ ?_
              rotate_left
              · intro w'
                go_simp
                with_reducible rfl
              rotate_left
              · simp only [Act.put, List.setIfInBounds_toArray, List.set_cons_zero, List.set_cons_succ, i64_w, i32_w]
                rfl
              refine pure_ (i := 3) (N := some 81) (v := ?_) (a' := ?_) #[false, true, false, true, false, false, false, false] rfl rfl (any_of HT_.out (by kernel_rfl)) (fun _ _ _ h => h) (Or.inl ⟨by rfl, ?_⟩) ?_ ?_
              rotate_left
              · intro w'
                go_simp
                with_reducible rfl
              rotate_left
              · simp only [Act.put, List.setIfInBounds_toArray, List.set_cons_zero, List.set_cons_succ, i64_w, i32_w]
                rfl
              refine take_ (i := 0) (N := some 78) (v := ?_) (a' := ?_) #[true, true, false, true, false, false, false, false] rfl rfl (take_ofW HT_.out HW_.out (by kernel_rfl)) (fun _ _ _ h => h) (Or.inl ⟨by rfl, ?_⟩) hHeld ?_ ?_
              rotate_left
              · rintro w' ⟨s0, s1, s2, s3, s4, s5, s6⟩
                go_simp
                with_reducible rfl
              rotate_left
              · simp only [Act.put, List.setIfInBounds_toArray, List.set_cons_zero, List.set_cons_succ, i64_w, i32_w]
                rfl
              refine take_ (i := 2) (N := some 80) (v := ?_) (a' := ?_) #[true, true, true, true, false, false, false, false] rfl rfl (take_ofW HT_.out HW_.out (by kernel_rfl)) (fun _ _ _ h => h) (Or.inl ⟨by rfl, ?_⟩) hHeld ?_ ?_
              rotate_left
              · rintro w' ⟨s0, s1, s2, s3, s4, s5, s6⟩
                go_simp
                with_reducible rfl
              rotate_left
              · simp only [Act.put, List.setIfInBounds_toArray, List.set_cons_zero, List.set_cons_succ, i64_w, i32_w]
                rfl
              refine take_ (i := 4) (N := some 82) (v := ?_) (a' := ?_) #[true, true, true, true, true, false, false, false] rfl rfl (take_ofW HT_.out HW_.out (by kernel_rfl)) (fun _ _ _ h => h) (Or.inl ⟨by rfl, ?_⟩) hHeld ?_ ?_
              rotate_left
              · rintro w' ⟨s0, s1, s2, s3, s4, s5, s6⟩
                go_simp
                with_reducible rfl
              rotate_left
              · simp only [Act.put, List.setIfInBounds_toArray, List.set_cons_zero, List.set_cons_succ, i64_w, i32_w]
                rfl
              refine pure_ (i := 5) (N := some 83) (v := ?_) (a' := ?_) #[true, true, true, true, true, true, false, false] rfl rfl (any_of HT_.out (by kernel_rfl)) (fun _ _ _ h => h) (Or.inl ⟨by rfl, ?_⟩) ?_ ?_
              rotate_left
              · intro w'
                go_simp
                with_reducible rfl
              rotate_left
              · simp only [Act.put, List.setIfInBounds_toArray, List.set_cons_zero, List.set_cons_succ, i64_w, i32_w]
                rfl
              refine one_ (i := 6) (N := none) #[true, true, true, true, true, true, true, false] rfl rfl (one_of HT_.out (by kernel_rfl)) (by decide) (fun K hK => ?_)
              have hs159 : w158.cell? ⟨gb104, 0, none⟩ = some (.int .i64 0) := (blk_cell BK104.out 0).trans rfl
              have hfs159 := blk_frozen BK104.out 0
              have hns159_0 := NB102_104.out
              have hns159_1 := NB103_104.out
              have hns159_3 := NB105_104.out
              have hns159_4 := NB106_104.out
              have hns159_5 := NB108_104.out
              have hms159_0 := NB104_102.out
              have hms159_1 := NB104_103.out
              have hms159_3 := NB104_105.out
              have hms159_4 := NB104_106.out
              have hms159_5 := NB104_108.out
              have hs160 : w158.cell? ⟨gb104, 1, none⟩ = some (.int .i64 0) := (blk_cell BK104.out 1).trans rfl
              have hfs160 := blk_frozen BK104.out 1
              have hns160_0 := NB102_104.out
              have hns160_1 := NB103_104.out
              have hns160_3 := NB105_104.out
              have hns160_4 := NB106_104.out
              have hns160_5 := NB108_104.out
              have hms160_0 := NB104_102.out
              have hms160_1 := NB104_103.out
              have hms160_3 := NB104_105.out
              have hms160_4 := NB104_106.out
              have hms160_5 := NB104_108.out
              have hs161 : w158.cell? ⟨gb104, 2, none⟩ = some (.int .i64 0) := (blk_cell BK104.out 2).trans rfl
              have hfs161 := blk_frozen BK104.out 2
              have hns161_0 := NB102_104.out
              have hns161_1 := NB103_104.out
              have hns161_3 := NB105_104.out
              have hns161_4 := NB106_104.out
              have hns161_5 := NB108_104.out
              have hms161_0 := NB104_102.out
              have hms161_1 := NB104_103.out
              have hms161_3 := NB104_105.out
              have hms161_4 := NB104_106.out
              have hms161_5 := NB104_108.out
              have hs162 : w158.cell? ⟨gb104, 3, none⟩ = some (.int .i64 0) := (blk_cell BK104.out 3).trans rfl
              have hfs162 := blk_frozen BK104.out 3
              have hns162_0 := NB102_104.out
              have hns162_1 := NB103_104.out
              have hns162_3 := NB105_104.out
              have hns162_4 := NB106_104.out
              have hns162_5 := NB108_104.out
              have hms162_0 := NB104_102.out
              have hms162_1 := NB104_103.out
              have hms162_3 := NB104_105.out
              have hms162_4 := NB104_106.out
              have hms162_5 := NB104_108.out
              refine skip_ (w1 := ?_) (by rfl) rfl ?_ ?_
              rotate_left
              · go_simp
                rfl
              refine hK.out _ _ ⟨((cell_far (p := ⟨gb104, _, none⟩) NB108_104.out _).trans (((cell_far (p := ⟨gb104, _, none⟩) NB108_104.out _).trans (((cell_far (p := ⟨gb104, _, none⟩) NB108_104.out _).trans (((cell_far (p := ⟨gb104, _, none⟩) NB108_104.out _).trans (hHeld.1)))))))), ((cell_far (p := ⟨gb104, _, none⟩) NB108_104.out _).trans (((cell_far (p := ⟨gb104, _, none⟩) NB108_104.out _).trans (((cell_far (p := ⟨gb104, _, none⟩) NB108_104.out _).trans (((cell_far (p := ⟨gb104, _, none⟩) NB108_104.out _).trans (hHeld.2.1)))))))), ((cell_far (p := ⟨gb104, _, none⟩) NB108_104.out _).trans (((cell_far (p := ⟨gb104, _, none⟩) NB108_104.out _).trans (((cell_far (p := ⟨gb104, _, none⟩) NB108_104.out _).trans (((cell_far (p := ⟨gb104, _, none⟩) NB108_104.out _).trans (hHeld.2.2.1)))))))), ((cell_far (p := ⟨gb104, _, none⟩) NB108_104.out _).trans (((cell_far (p := ⟨gb104, _, none⟩) NB108_104.out _).trans (((cell_far (p := ⟨gb104, _, none⟩) NB108_104.out _).trans (((cell_far (p := ⟨gb104, _, none⟩) NB108_104.out _).trans (hHeld.2.2.2.1)))))))), ((cell_far (p := ⟨gb104, _, none⟩) NB103_104.out _).trans (((cell_far (p := ⟨gb104, _, none⟩) NB103_104.out _).trans (((cell_far (p := ⟨gb104, _, none⟩) NB103_104.out _).trans (((cell_far (p := ⟨gb104, _, none⟩) NB103_104.out _).trans (hHeld.2.2.2.2.1)))))))), ((cell_far (p := ⟨gb104, _, none⟩) NB103_104.out _).trans (((cell_far (p := ⟨gb104, _, none⟩) NB103_104.out _).trans (((cell_far (p := ⟨gb104, _, none⟩) NB103_104.out _).trans (((cell_far (p := ⟨gb104, _, none⟩) NB103_104.out _).trans (hHeld.2.2.2.2.2.1)))))))), ((cell_far (p := ⟨gb104, _, none⟩) NB103_104.out _).trans (((cell_far (p := ⟨gb104, _, none⟩) NB103_104.out _).trans (((cell_far (p := ⟨gb104, _, none⟩) NB103_104.out _).trans (((cell_far (p := ⟨gb104, _, none⟩) NB103_104.out _).trans (hHeld.2.2.2.2.2.2))))))))⟩ (fun hHeld => ?_)
              clear hK K
              refine one_ (i := 7) (N := none) #[true, true, true, true, true, true, true, true] rfl rfl (one_of HT_.out (by kernel_rfl)) (by decide) (fun K hK => ?_)
              have hs163 : w158.cell? ⟨gb105, 0, none⟩ = some (.int .i64 0) := (blk_cell BK105.out 0).trans rfl
              have hfs163 := blk_frozen BK105.out 0
              have hns163_0 := NB102_105.out
              have hns163_1 := NB103_105.out
              have hns163_2 := NB104_105.out
              have hns163_4 := NB106_105.out
              have hns163_5 := NB108_105.out
              have hms163_0 := NB105_102.out
              have hms163_1 := NB105_103.out
              have hms163_2 := NB105_104.out
              have hms163_4 := NB105_106.out
              have hms163_5 := NB105_108.out
              have hs164 : w158.cell? ⟨gb105, 1, none⟩ = some (.bool false) := (blk_cell BK105.out 1).trans rfl
              have hfs164 := blk_frozen BK105.out 1
              have hns164_0 := NB102_105.out
              have hns164_1 := NB103_105.out
              have hns164_2 := NB104_105.out
              have hns164_4 := NB106_105.out
              have hns164_5 := NB108_105.out
              have hms164_0 := NB105_102.out
              have hms164_1 := NB105_103.out
              have hms164_2 := NB105_104.out
              have hms164_4 := NB105_106.out
              have hms164_5 := NB105_108.out
              have hs165 : w158.cell? ⟨gb105, 2, none⟩ = some (.int .i64 0) := (blk_cell BK105.out 2).trans rfl
              have hfs165 := blk_frozen BK105.out 2
              have hns165_0 := NB102_105.out
              have hns165_1 := NB103_105.out
              have hns165_2 := NB104_105.out
              have hns165_4 := NB106_105.out
              have hns165_5 := NB108_105.out
              have hms165_0 := NB105_102.out
              have hms165_1 := NB105_103.out
              have hms165_2 := NB105_104.out
              have hms165_4 := NB105_106.out
              have hms165_5 := NB105_108.out
              have hs166 : w158.cell? ⟨gb105, 3, none⟩ = some (.int .i64 0) := (blk_cell BK105.out 3).trans rfl
              have hfs166 := blk_frozen BK105.out 3
              have hns166_0 := NB102_105.out
              have hns166_1 := NB103_105.out
              have hns166_2 := NB104_105.out
              have hns166_4 := NB106_105.out
              have hns166_5 := NB108_105.out
              have hms166_0 := NB105_102.out
              have hms166_1 := NB105_103.out
              have hms166_2 := NB105_104.out
              have hms166_4 := NB105_106.out
              have hms166_5 := NB105_108.out
              refine skip_ (w1 := ?_) (by rfl) rfl ?_ ?_
              rotate_left
              · go_simp
                rfl
              refine hK.out _ _ ⟨((cell_far (p := ⟨gb105, _, none⟩) NB108_105.out _).trans (((cell_far (p := ⟨gb105, _, none⟩) NB108_105.out _).trans (((cell_far (p := ⟨gb105, _, none⟩) NB108_105.out _).trans (((cell_far (p := ⟨gb105, _, none⟩) NB108_105.out _).trans (hHeld.1)))))))), ((cell_far (p := ⟨gb105, _, none⟩) NB108_105.out _).trans (((cell_far (p := ⟨gb105, _, none⟩) NB108_105.out _).trans (((cell_far (p := ⟨gb105, _, none⟩) NB108_105.out _).trans (((cell_far (p := ⟨gb105, _, none⟩) NB108_105.out _).trans (hHeld.2.1)))))))), ((cell_far (p := ⟨gb105, _, none⟩) NB108_105.out _).trans (((cell_far (p := ⟨gb105, _, none⟩) NB108_105.out _).trans (((cell_far (p := ⟨gb105, _, none⟩) NB108_105.out _).trans (((cell_far (p := ⟨gb105, _, none⟩) NB108_105.out _).trans (hHeld.2.2.1)))))))), ((cell_far (p := ⟨gb105, _, none⟩) NB108_105.out _).trans (((cell_far (p := ⟨gb105, _, none⟩) NB108_105.out _).trans (((cell_far (p := ⟨gb105, _, none⟩) NB108_105.out _).trans (((cell_far (p := ⟨gb105, _, none⟩) NB108_105.out _).trans (hHeld.2.2.2.1)))))))), ((cell_far (p := ⟨gb105, _, none⟩) NB103_105.out _).trans (((cell_far (p := ⟨gb105, _, none⟩) NB103_105.out _).trans (((cell_far (p := ⟨gb105, _, none⟩) NB103_105.out _).trans (((cell_far (p := ⟨gb105, _, none⟩) NB103_105.out _).trans (hHeld.2.2.2.2.1)))))))), ((cell_far (p := ⟨gb105, _, none⟩) NB103_105.out _).trans (((cell_far (p := ⟨gb105, _, none⟩) NB103_105.out _).trans (((cell_far (p := ⟨gb105, _, none⟩) NB103_105.out _).trans (((cell_far (p := ⟨gb105, _, none⟩) NB103_105.out _).trans (hHeld.2.2.2.2.2.1)))))))), ((cell_far (p := ⟨gb105, _, none⟩) NB103_105.out _).trans (((cell_far (p := ⟨gb105, _, none⟩) NB103_105.out _).trans (((cell_far (p := ⟨gb105, _, none⟩) NB103_105.out _).trans (((cell_far (p := ⟨gb105, _, none⟩) NB103_105.out _).trans (hHeld.2.2.2.2.2.2))))))))⟩ (fun hHeld => ?_)
              clear hK K
              refine done_ (done_of HT_.out (by kernel_rfl)) ?_
              try go_wp2
              refine bodyPost_ret (results_cc rfl _ _ gb104 gb105 25 32 #[.int .i64 a3_1, .int .i64 a3_0, .int .i64 (wrap64 (a1 + a2)), .int .i64 a3_2] #[.int .i64 0, .bool true, .int .i64 a3_1, .int .i64 a3_2] (0, 0) (0, 0) _ _ rfl (by (with_reducible repeat (first | refine blk_drewN ?_ _ | refine blk_drew ?_ | refine blk_alloc ?_ _)); refine blk_far ?_ NB104_105.out _; (with_reducible repeat (first | refine blk_drewN ?_ _ | refine blk_drew ?_ | refine blk_alloc ?_ _)); refine blk_far ?_ NB104_105.out _; (with_reducible repeat (first | refine blk_drewN ?_ _ | refine blk_drew ?_ | refine blk_alloc ?_ _)); refine blk_far ?_ NB104_105.out _; (with_reducible repeat (first | refine blk_drewN ?_ _ | refine blk_drew ?_ | refine blk_alloc ?_ _)); refine blk_far ?_ NB104_105.out _; (with_reducible repeat (first | refine blk_drewN ?_ _ | refine blk_drew ?_ | refine blk_alloc ?_ _)); refine blk_put (cs := #[.int .i64 a3_1, .int .i64 a3_0, .int .i64 (wrap64 (a1 + a2)), .int .i64 0]) ?_ 3 _ rfl; (with_reducible repeat (first | refine blk_drewN ?_ _ | refine blk_drew ?_ | refine blk_alloc ?_ _)); refine blk_put (cs := #[.int .i64 a3_1, .int .i64 a3_0, .int .i64 0, .int .i64 0]) ?_ 2 _ rfl; (with_reducible repeat (first | refine blk_drewN ?_ _ | refine blk_drew ?_ | refine blk_alloc ?_ _)); refine blk_put (cs := #[.int .i64 a3_1, .int .i64 0, .int .i64 0, .int .i64 0]) ?_ 1 _ rfl; (with_reducible repeat (first | refine blk_drewN ?_ _ | refine blk_drew ?_ | refine blk_alloc ?_ _)); refine blk_put (cs := #[.int .i64 0, .int .i64 0, .int .i64 0, .int .i64 0]) ?_ 0 _ rfl; (with_reducible repeat (first | refine blk_drewN ?_ _ | refine blk_drew ?_ | refine blk_alloc ?_ _)); exact BK104.out) Try.underlying25 rfl (by kernel_rfl) rfl (by (with_reducible repeat (first | refine blk_drewN ?_ _ | refine blk_drew ?_ | refine blk_alloc ?_ _)); refine blk_put (cs := #[.int .i64 0, .bool true, .int .i64 a3_1, .int .i64 0]) ?_ 3 _ rfl; (with_reducible repeat (first | refine blk_drewN ?_ _ | refine blk_drew ?_ | refine blk_alloc ?_ _)); refine blk_put (cs := #[.int .i64 0, .bool true, .int .i64 0, .int .i64 0]) ?_ 2 _ rfl; (with_reducible repeat (first | refine blk_drewN ?_ _ | refine blk_drew ?_ | refine blk_alloc ?_ _)); refine blk_put (cs := #[.int .i64 0, .bool false, .int .i64 0, .int .i64 0]) ?_ 1 _ rfl; (with_reducible repeat (first | refine blk_drewN ?_ _ | refine blk_drew ?_ | refine blk_alloc ?_ _)); refine blk_put (cs := #[.int .i64 0, .bool false, .int .i64 0, .int .i64 0]) ?_ 0 _ rfl; (with_reducible repeat (first | refine blk_drewN ?_ _ | refine blk_drew ?_ | refine blk_alloc ?_ _)); refine blk_far ?_ NB105_104.out _; (with_reducible repeat (first | refine blk_drewN ?_ _ | refine blk_drew ?_ | refine blk_alloc ?_ _)); refine blk_far ?_ NB105_104.out _; (with_reducible repeat (first | refine blk_drewN ?_ _ | refine blk_drew ?_ | refine blk_alloc ?_ _)); refine blk_far ?_ NB105_104.out _; (with_reducible repeat (first | refine blk_drewN ?_ _ | refine blk_drew ?_ | refine blk_alloc ?_ _)); refine blk_far ?_ NB105_104.out _; (with_reducible repeat (first | refine blk_drewN ?_ _ | refine blk_drew ?_ | refine blk_alloc ?_ _)); exact BK105.out) Try.underlying32 rfl (by kernel_rfl)) rfl ?_
              exact ⟨by first | rfl | (simp [errW_none, errW_some] <;> rfl) | (simp [*, errW_none, errW_some] <;> rfl), by repeat (first | (with_reducible first | exact HB.out | apply below_alloc | apply pw_below_drewN | apply below_drew1 | refine below_set ?_ GE102.out | refine below_set ?_ GE103.out | refine below_set ?_ GE104.out | refine below_set ?_ GE105.out | refine below_set ?_ GE106.out | refine below_set ?_ GE108.out) | exact HB.out)⟩

end Go.Proofs.Ytdeejdjekjdgpaa.PBallotHears
