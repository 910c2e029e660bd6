/- PROVED: lemmas that the row uses (cut copies of my texts and of the printed ones). No condition beyond what each line says. -/
import Derived.Test.YtpgmfjpjjnpiiaaBPAll
namespace Go.Proofs.Ytpgmfjpjjnpiiaa.PLeaseWakes
open Go.RowKit Go.Proofs.YtpgmfjpjjnpiiaaW.PrintWords Go.Proofs.YtpgmfjpjjnpiiaaW.PrintLast Go.Proofs.YtpgmfjpjjnpiiaaW.PrintMore
attribute [local go_sem] max2_int min2_int max_two min_two max_three min_three max_four min_four   -- for this text's walks alone
set_option linter.unusedVariables false
set_option linter.unusedSimpArgs false
attribute [local go_sem high] eqA48
def ballot_Hear.j0 : Nat → Int → Int → Bool → Int → Int → Int → Int → Int → Int → Int → Int → Bool → Int → Int → Option (Int × Int × Int × Int × Int × Bool × Int × Int)
  | 0, _, _, _, _, _, _, _, _, _, _, _, _, _, _ => none
  | k + 1, x1, x2, x35, x109000, x109001, x109002, x109003, x110000, x110001, x110002, x113000, x113001, x113002, x113003 => if x35 = true then (some (x109000, x109001, x109002, x109003, x113000, x113001, x113002, x113003)) else (if (x110001 == x109000 && (x110000 == x109001)) = true then (some (x110001, x110000, wrap64 (x1 + x2), mx x109003 x110002, 0, true, x110001, x110002)) else (if x1 < x109002 then (some (x109000, x109001, x109002, x109003, x113000, x113001, x113002, x113003)) else (if x110001 ≤ x109000 then (some (x109000, x109001, x109002, x109003, x113000, x113001, x113002, x113003)) else (some (x110001, x110000, wrap64 (x1 + x2), x110002, 0, true, x110001, x110002)))))
def ballot_Hear.f (k : Nat) (a0_0 : Int) (a0_1 : Int) (a0_2 : Int) (a0_3 : Int) (a1 : Int) (a2 : Int) (a3_0 : Int) (a3_1 : Int) (a3_2 : Int) : Option (Int × Int × Int × Int × Int × Bool × Int × Int) := (ballot_right.f a1 a2).bind fun t113 => (if t113 = true then (if a3_0 < 0 then (ballot_Hear.j0 k a1 a2 true a0_0 a0_1 a0_2 a0_3 a3_0 a3_1 a3_2 0 false a0_0 a3_2) else (if a3_1 < 1 then (ballot_Hear.j0 k a1 a2 true a0_0 a0_1 a0_2 a0_3 a3_0 a3_1 a3_2 0 false a0_0 a3_2) else (ballot_Hear.j0 k a1 a2 (decide (a3_1 > 1099511627776)) a0_0 a0_1 a0_2 a0_3 a3_0 a3_1 a3_2 0 false a0_0 a3_2))) else (ballot_Hear.j0 k a1 a2 true a0_0 a0_1 a0_2 a0_3 a3_0 a3_1 a3_2 0 false a0_0 a3_2))
def ballot_Hear.T11 : Bool × List (List Nat × List Nat) := (true, [([], []), ([], []), ([1], [1]), ([], []), ([3], [3]), ([2, 4], [2, 4]), ([0, 0], [0]), ([5, 6, 0, 1, 2, 3, 4, 5, 6], [5])])
def ballot_Hear.B11 : List Nat := [0, 0, 2, 0, 8, 30, 1, 127]
theorem ballot_Hear.tab11 : rtab .any (opsOf Try.f30 11) = ballot_Hear.T11 := by kernel_rfl
theorem ballot_Hear.bits11 : waitsOk ballot_Hear.T11.2 ballot_Hear.B11 = true := by kernel_rfl
set_option maxHeartbeats 8000000 in
set_option maxRecDepth 100000 in
theorem ballot_Hear.calls (k : Nat) (a0_0 : Int) (a0_1 : Int) (a0_2 : Int) (a0_3 : Int) (a1 : Int) (a2 : Int) (a3_0 : Int) (a3_1 : Int) (a3_2 : Int) (r1 : Int) (r2 : Int) (r3 : Int) (r4 : Int) (r5 : Int) (r6 : Bool) (r7 : Int) (r8 : Int) (w : World) (h : ballot_Hear.f k a0_0 a0_1 a0_2 a0_3 a1 a2 a3_0 a3_1 a3_2 = some (r1, r2, r3, r4, r5, r6, r7, r8)) :
    Calls Try.prog 30 #[.agg #[.int .i64 a0_0, .int .i64 a0_1, .int .i64 a0_2, .int .i64 a0_3], .int .i64 a1, .int .i64 a2, .agg #[.int .i64 a3_0, .int .i64 a3_1, .int .i64 a3_2]] w fun e w' => e = .returned (.tuple #[.agg #[.int .i64 r1, .int .i64 r2, .int .i64 r3, .int .i64 r4], .agg #[.int .i64 r5, .bool r6, .int .i64 r7, .int .i64 r8]]) ∧ Below w.heap.size w w' := by
  have hu48 := Try.underlying48
  have hu34 := Try.underlying34
  have hu36 := Try.underlying36
  have HB := Aside0.mk (Below.refl w.heap.size w)
  have H : ((ballot_right.f a1 a2).bind fun t113 => (if t113 = true then (if a3_0 < 0 then (ballot_Hear.j0 k a1 a2 true a0_0 a0_1 a0_2 a0_3 a3_0 a3_1 a3_2 0 false a0_0 a3_2) else (if a3_1 < 1 then (ballot_Hear.j0 k a1 a2 true a0_0 a0_1 a0_2 a0_3 a3_0 a3_1 a3_2 0 false a0_0 a3_2) else (ballot_Hear.j0 k a1 a2 (decide (a3_1 > 1099511627776)) a0_0 a0_1 a0_2 a0_3 a3_0 a3_1 a3_2 0 false a0_0 a3_2))) else (ballot_Hear.j0 k a1 a2 true a0_0 a0_1 a0_2 a0_3 a3_0 a3_1 a3_2 0 false a0_0 a3_2))) = some (r1, r2, r3, r4, r5, r6, r7, r8) := h
  clear h
  have HC5 := Aside0.mk H
  clear H
  go_enter Try.func30, Try.ntmps30
  go_upto_region 2 with (first | ((with_reducible refine gate_dst (N := 4) rfl ?_); refine box_event ?hg (N := 4) ?hd (cs := #[.int .i64 a0_0, .int .i64 a0_1, .int .i64 a0_2, .int .i64 a0_3]) (t := 48) ?hr ?_; (case hd => rfl); (case hg => rfl); (case hr => first | (go_simp; done) | (go_simp; rfl)); intro gb108 hg w6 hbox hb; have n0_ := Aside0.mk (below_step (by repeat (first | (with_reducible first | exact HB.out | apply below_alloc | apply pw_below_drewN | apply below_drew1) | exact HB.out)) hb); have n1_ := Aside0.mk (hbox); have n2_ := Aside0.mk ((by rw [hg]; exact (below_size (by repeat (first | (with_reducible first | exact HB.out | apply below_alloc | apply pw_below_drewN | apply below_drew1) | exact HB.out))) : w.heap.size ≤ gb108)); have n3_ := Aside0.mk ((by rw [hg]; exact (below_size (by repeat (first | (with_reducible first | exact HB.out | apply below_alloc | apply pw_below_drewN | apply below_drew1) | exact HB.out))) : w.heap.size ≤ gb108)); clear HB; have HB := n0_; have BK108 := n1_; have GW108 := n2_; have GE108 := n3_; clear n0_ n1_ n2_ n3_; clear hb hbox hg) | ((with_reducible refine gate_dst (N := 7) rfl ?_); refine box_event ?hg (N := 7) ?hd (cs := #[.int .i64 a3_0, .int .i64 a3_1, .int .i64 a3_2]) (t := 34) ?hr ?_; (case hd => rfl); (case hg => rfl); (case hr => first | (go_simp; done) | (go_simp; rfl)); intro gb109 hg w7 hbox hb; have n0_ := Aside0.mk (blk_below (g := gb108) (o := .cells #[.int .i64 a0_0, .int .i64 a0_1, .int .i64 a0_2, .int .i64 a0_3] 48 (0, 0)) (by (with_reducible repeat (first | refine blk_drewN ?_ _ | refine blk_drew ?_ | refine blk_alloc ?_ _)); exact BK108.out) hb); have n1_ := Aside0.mk (below_step (by repeat (first | (with_reducible first | exact HB.out | apply below_alloc | apply pw_below_drewN | apply below_drew1 | refine below_set ?_ GE108.out) | exact HB.out)) hb); have n2_ := Aside0.mk (hbox); have n3_ := Aside0.mk ((by rw [hg]; exact (below_size (by repeat (first | (with_reducible first | exact HB.out | apply below_alloc | apply pw_below_drewN | apply below_drew1 | refine below_set ?_ GE108.out) | exact HB.out))) : w.heap.size ≤ gb109)); have n4_ := Aside0.mk ((by rw [hg]; exact (below_size (by repeat (first | (with_reducible first | exact HB.out | apply below_alloc | apply pw_below_drewN | apply below_drew1 | refine below_set ?_ GE108.out) | exact HB.out))) : w.heap.size ≤ gb109)); have n5_ := Aside0.mk ((by rw [hg]; exact Nat.ne_of_lt (blk_lt (g := gb108) (o := .cells #[.int .i64 a0_0, .int .i64 a0_1, .int .i64 a0_2, .int .i64 a0_3] 48 (0, 0)) (by (with_reducible repeat (first | refine blk_drewN ?_ _ | refine blk_drew ?_ | refine blk_alloc ?_ _)); exact BK108.out)) : gb108 ≠ gb109)); have n6_ := Aside0.mk ((by rw [hg]; exact Nat.ne_of_gt (blk_lt (g := gb108) (o := .cells #[.int .i64 a0_0, .int .i64 a0_1, .int .i64 a0_2, .int .i64 a0_3] 48 (0, 0)) (by (with_reducible repeat (first | refine blk_drewN ?_ _ | refine blk_drew ?_ | refine blk_alloc ?_ _)); exact BK108.out)) : gb109 ≠ gb108)); clear BK108; clear HB; have BK108 := n0_; have HB := n1_; have BK109 := n2_; have GW109 := n3_; have GE109 := n4_; have NB108_109 := n5_; have NB109_108 := n6_; clear n0_ n1_ n2_ n3_ n4_ n5_ n6_; clear hb hbox hg) | ((with_reducible refine gate_dst (N := 8) rfl ?_); refine box_event ?hg (N := 8) ?hd (cs := #[.int .i64 0, .int .i64 0, .int .i64 0, .int .i64 0]) (t := 48) ?hr ?_; (case hd => rfl); (case hg => rfl); (case hr => first | (go_simp; done) | (go_simp; rfl)); intro gb110 hg w8 hbox hb; have n0_ := Aside0.mk (blk_below (g := gb108) (o := .cells #[.int .i64 a0_0, .int .i64 a0_1, .int .i64 a0_2, .int .i64 a0_3] 48 (0, 0)) (by (with_reducible repeat (first | refine blk_drewN ?_ _ | refine blk_drew ?_ | refine blk_alloc ?_ _)); exact BK108.out) hb); have n1_ := Aside0.mk (blk_below (g := gb109) (o := .cells #[.int .i64 a3_0, .int .i64 a3_1, .int .i64 a3_2] 34 (0, 0)) (by (with_reducible repeat (first | refine blk_drewN ?_ _ | refine blk_drew ?_ | refine blk_alloc ?_ _)); exact BK109.out) hb); have n2_ := Aside0.mk (below_step (by repeat (first | (with_reducible first | exact HB.out | apply below_alloc | apply pw_below_drewN | apply below_drew1 | refine below_set ?_ GE108.out | refine below_set ?_ GE109.out) | exact HB.out)) hb); have n3_ := Aside0.mk (hbox); have n4_ := Aside0.mk ((by rw [hg]; exact (below_size (by repeat (first | (with_reducible first | exact HB.out | apply below_alloc | apply pw_below_drewN | apply below_drew1 | refine below_set ?_ GE108.out | refine below_set ?_ GE109.out) | exact HB.out))) : w.heap.size ≤ gb110)); have n5_ := Aside0.mk ((by rw [hg]; exact (below_size (by repeat (first | (with_reducible first | exact HB.out | apply below_alloc | apply pw_below_drewN | apply below_drew1 | refine below_set ?_ GE108.out | refine below_set ?_ GE109.out) | exact HB.out))) : w.heap.size ≤ gb110)); have n6_ := Aside0.mk ((by rw [hg]; exact Nat.ne_of_lt (blk_lt (g := gb108) (o := .cells #[.int .i64 a0_0, .int .i64 a0_1, .int .i64 a0_2, .int .i64 a0_3] 48 (0, 0)) (by (with_reducible repeat (first | refine blk_drewN ?_ _ | refine blk_drew ?_ | refine blk_alloc ?_ _)); exact BK108.out)) : gb108 ≠ gb110)); have n7_ := Aside0.mk ((by rw [hg]; exact Nat.ne_of_gt (blk_lt (g := gb108) (o := .cells #[.int .i64 a0_0, .int .i64 a0_1, .int .i64 a0_2, .int .i64 a0_3] 48 (0, 0)) (by (with_reducible repeat (first | refine blk_drewN ?_ _ | refine blk_drew ?_ | refine blk_alloc ?_ _)); exact BK108.out)) : gb110 ≠ gb108)); have n8_ := Aside0.mk ((by rw [hg]; exact Nat.ne_of_lt (blk_lt (g := gb109) (o := .cells #[.int .i64 a3_0, .int .i64 a3_1, .int .i64 a3_2] 34 (0, 0)) (by (with_reducible repeat (first | refine blk_drewN ?_ _ | refine blk_drew ?_ | refine blk_alloc ?_ _)); exact BK109.out)) : gb109 ≠ gb110)); have n9_ := Aside0.mk ((by rw [hg]; exact Nat.ne_of_gt (blk_lt (g := gb109) (o := .cells #[.int .i64 a3_0, .int .i64 a3_1, .int .i64 a3_2] 34 (0, 0)) (by (with_reducible repeat (first | refine blk_drewN ?_ _ | refine blk_drew ?_ | refine blk_alloc ?_ _)); exact BK109.out)) : gb110 ≠ gb109)); clear BK108; clear BK109; clear HB; have BK108 := n0_; have BK109 := n1_; have HB := n2_; have BK110 := n3_; have GW110 := n4_; have GE110 := n5_; have NB108_110 := n6_; have NB110_108 := n7_; have NB109_110 := n8_; have NB110_109 := n9_; clear n0_ n1_ n2_ n3_ n4_ n5_ n6_ n7_ n8_ n9_; clear hb hbox hg) | ((with_reducible refine gate_dst (N := 9) rfl ?_); refine box_event ?hg (N := 9) ?hd (cs := #[.int .i64 0, .bool false, .int .i64 0, .int .i64 0]) (t := 36) ?hr ?_; (case hd => rfl); (case hg => rfl); (case hr => first | (go_simp; done) | (go_simp; rfl)); intro gb111 hg w9 hbox hb; have n0_ := Aside0.mk (blk_below (g := gb108) (o := .cells #[.int .i64 a0_0, .int .i64 a0_1, .int .i64 a0_2, .int .i64 a0_3] 48 (0, 0)) (by (with_reducible repeat (first | refine blk_drewN ?_ _ | refine blk_drew ?_ | refine blk_alloc ?_ _)); exact BK108.out) hb); have n1_ := Aside0.mk (blk_below (g := gb109) (o := .cells #[.int .i64 a3_0, .int .i64 a3_1, .int .i64 a3_2] 34 (0, 0)) (by (with_reducible repeat (first | refine blk_drewN ?_ _ | refine blk_drew ?_ | refine blk_alloc ?_ _)); exact BK109.out) hb); have n2_ := Aside0.mk (blk_below (g := gb110) (o := .cells #[.int .i64 0, .int .i64 0, .int .i64 0, .int .i64 0] 48 (0, 0)) (by (with_reducible repeat (first | refine blk_drewN ?_ _ | refine blk_drew ?_ | refine blk_alloc ?_ _)); exact BK110.out) hb); have n3_ := Aside0.mk (below_step (by repeat (first | (with_reducible first | exact HB.out | apply below_alloc | apply pw_below_drewN | apply below_drew1 | refine below_set ?_ GE108.out | refine below_set ?_ GE109.out | refine below_set ?_ GE110.out) | exact HB.out)) hb); have n4_ := Aside0.mk (hbox); have n5_ := Aside0.mk ((by rw [hg]; exact (below_size (by repeat (first | (with_reducible first | exact HB.out | apply below_alloc | apply pw_below_drewN | apply below_drew1 | refine below_set ?_ GE108.out | refine below_set ?_ GE109.out | refine below_set ?_ GE110.out) | exact HB.out))) : w.heap.size ≤ gb111)); have n6_ := Aside0.mk ((by rw [hg]; exact (below_size (by repeat (first | (with_reducible first | exact HB.out | apply below_alloc | apply pw_below_drewN | apply below_drew1 | refine below_set ?_ GE108.out | refine below_set ?_ GE109.out | refine below_set ?_ GE110.out) | exact HB.out))) : w.heap.size ≤ gb111)); have n7_ := Aside0.mk ((by rw [hg]; exact Nat.ne_of_lt (blk_lt (g := gb108) (o := .cells #[.int .i64 a0_0, .int .i64 a0_1, .int .i64 a0_2, .int .i64 a0_3] 48 (0, 0)) (by (with_reducible repeat (first | refine blk_drewN ?_ _ | refine blk_drew ?_ | refine blk_alloc ?_ _)); exact BK108.out)) : gb108 ≠ gb111)); have n8_ := Aside0.mk ((by rw [hg]; exact Nat.ne_of_gt (blk_lt (g := gb108) (o := .cells #[.int .i64 a0_0, .int .i64 a0_1, .int .i64 a0_2, .int .i64 a0_3] 48 (0, 0)) (by (with_reducible repeat (first | refine blk_drewN ?_ _ | refine blk_drew ?_ | refine blk_alloc ?_ _)); exact BK108.out)) : gb111 ≠ gb108)); have n9_ := Aside0.mk ((by rw [hg]; exact Nat.ne_of_lt (blk_lt (g := gb109) (o := .cells #[.int .i64 a3_0, .int .i64 a3_1, .int .i64 a3_2] 34 (0, 0)) (by (with_reducible repeat (first | refine blk_drewN ?_ _ | refine blk_drew ?_ | refine blk_alloc ?_ _)); exact BK109.out)) : gb109 ≠ gb111)); have n10_ := Aside0.mk ((by rw [hg]; exact Nat.ne_of_gt (blk_lt (g := gb109) (o := .cells #[.int .i64 a3_0, .int .i64 a3_1, .int .i64 a3_2] 34 (0, 0)) (by (with_reducible repeat (first | refine blk_drewN ?_ _ | refine blk_drew ?_ | refine blk_alloc ?_ _)); exact BK109.out)) : gb111 ≠ gb109)); have n11_ := Aside0.mk ((by rw [hg]; exact Nat.ne_of_lt (blk_lt (g := gb110) (o := .cells #[.int .i64 0, .int .i64 0, .int .i64 0, .int .i64 0] 48 (0, 0)) (by (with_reducible repeat (first | refine blk_drewN ?_ _ | refine blk_drew ?_ | refine blk_alloc ?_ _)); exact BK110.out)) : gb110 ≠ gb111)); have n12_ := Aside0.mk ((by rw [hg]; exact Nat.ne_of_gt (blk_lt (g := gb110) (o := .cells #[.int .i64 0, .int .i64 0, .int .i64 0, .int .i64 0] 48 (0, 0)) (by (with_reducible repeat (first | refine blk_drewN ?_ _ | refine blk_drew ?_ | refine blk_alloc ?_ _)); exact BK110.out)) : gb111 ≠ gb110)); clear BK108; clear BK109; clear BK110; clear HB; have BK108 := n0_; have BK109 := n1_; have BK110 := n2_; have HB := n3_; have BK111 := n4_; have GW111 := n5_; have GE111 := n6_; have NB108_111 := n7_; have NB111_108 := n8_; have NB109_111 := n9_; have NB111_109 := n10_; have NB110_111 := n11_; have NB111_110 := n12_; clear n0_ n1_ n2_ n3_ n4_ n5_ n6_ n7_ n8_ n9_ n10_ n11_ n12_; clear hb hbox hg; have hnb10 := NB108_109.out; have hnc10 := NB109_108.out; have hnb11 := NB108_110.out; have hnc11 := NB110_108.out; have hnb12 := NB108_111.out; have hnc12 := NB111_108.out; have hcz13_0 : w9.cell? ⟨gb108, 0, none⟩ = some (.int .i64 a0_0) := (blk_cell BK108.out 0).trans rfl; have hcz13_1 : w9.cell? ⟨gb108, 1, none⟩ = some (.int .i64 a0_1) := (blk_cell BK108.out 1).trans rfl; have hcz13_2 : w9.cell? ⟨gb108, 2, none⟩ = some (.int .i64 a0_2) := (blk_cell BK108.out 2).trans rfl; have hcz13_3 : w9.cell? ⟨gb108, 3, none⟩ = some (.int .i64 a0_3) := (blk_cell BK108.out 3).trans rfl; have hfz13_0 := blk_frozen BK108.out 0; have hfz13_1 := blk_frozen BK108.out 1; have hfz13_2 := blk_frozen BK108.out 2; have hfz13_3 := blk_frozen BK108.out 3; have hnb14 := NB109_110.out; have hnc14 := NB110_109.out; have hnb15 := NB109_111.out; have hnc15 := NB111_109.out; have hcz16_0 : w9.cell? ⟨gb109, 0, none⟩ = some (.int .i64 a3_0) := (blk_cell BK109.out 0).trans rfl; have hcz16_1 : w9.cell? ⟨gb109, 1, none⟩ = some (.int .i64 a3_1) := (blk_cell BK109.out 1).trans rfl; have hcz16_2 : w9.cell? ⟨gb109, 2, none⟩ = some (.int .i64 a3_2) := (blk_cell BK109.out 2).trans rfl; have hfz16_0 := blk_frozen BK109.out 0; have hfz16_1 := blk_frozen BK109.out 1; have hfz16_2 := blk_frozen BK109.out 2) | ((with_reducible refine gate_dst (N := 10) rfl ?_); refine box_event ?hg (N := 10) ?hd (cs := #[.int .i64 0, .bool false, .int .i64 0, .int .i64 0]) (t := 36) ?hr ?_; (case hd => rfl); (case hg => rfl); (case hr => first | (go_simp; done) | (go_simp; rfl)); intro gb112 hg w17 hbox hb; have n0_ := Aside0.mk (blk_below (g := gb108) (o := .cells #[.int .i64 a0_0, .int .i64 a0_1, .int .i64 a0_2, .int .i64 a0_3] 48 (0, 0)) (by (with_reducible repeat (first | refine blk_drewN ?_ _ | refine blk_drew ?_ | refine blk_alloc ?_ _)); exact BK108.out) hb); have n1_ := Aside0.mk (blk_below (g := gb109) (o := .cells #[.int .i64 a3_0, .int .i64 a3_1, .int .i64 a3_2] 34 (0, 0)) (by (with_reducible repeat (first | refine blk_drewN ?_ _ | refine blk_drew ?_ | refine blk_alloc ?_ _)); exact BK109.out) hb); have n2_ := Aside0.mk (blk_below (g := gb110) (o := .cells #[.int .i64 0, .int .i64 0, .int .i64 0, .int .i64 0] 48 (0, 0)) (by (with_reducible repeat (first | refine blk_drewN ?_ _ | refine blk_drew ?_ | refine blk_alloc ?_ _)); exact BK110.out) hb); have n3_ := Aside0.mk (blk_below (g := gb111) (o := .cells #[.int .i64 0, .bool false, .int .i64 0, .int .i64 0] 36 (0, 0)) (by (with_reducible repeat (first | refine blk_drewN ?_ _ | refine blk_drew ?_ | refine blk_alloc ?_ _)); exact BK111.out) hb); have n4_ := Aside0.mk (below_step (by repeat (first | (with_reducible first | exact HB.out | apply below_alloc | apply pw_below_drewN | apply below_drew1 | refine below_set ?_ GE108.out | refine below_set ?_ GE109.out | refine below_set ?_ GE110.out | refine below_set ?_ GE111.out) | exact HB.out)) hb); have n5_ := Aside0.mk (hbox); have n6_ := Aside0.mk ((by rw [hg]; exact (below_size (by repeat (first | (with_reducible first | exact HB.out | apply below_alloc | apply pw_below_drewN | apply below_drew1 | refine below_set ?_ GE108.out | refine below_set ?_ GE109.out | refine below_set ?_ GE110.out | refine below_set ?_ GE111.out) | exact HB.out))) : w.heap.size ≤ gb112)); have n7_ := Aside0.mk ((by rw [hg]; exact (below_size (by repeat (first | (with_reducible first | exact HB.out | apply below_alloc | apply pw_below_drewN | apply below_drew1 | refine below_set ?_ GE108.out | refine below_set ?_ GE109.out | refine below_set ?_ GE110.out | refine below_set ?_ GE111.out) | exact HB.out))) : w.heap.size ≤ gb112)); have n8_ := Aside0.mk ((by rw [hg]; exact Nat.ne_of_lt (blk_lt (g := gb108) (o := .cells #[.int .i64 a0_0, .int .i64 a0_1, .int .i64 a0_2, .int .i64 a0_3] 48 (0, 0)) (by (with_reducible repeat (first | refine blk_drewN ?_ _ | refine blk_drew ?_ | refine blk_alloc ?_ _)); exact BK108.out)) : gb108 ≠ gb112)); have n9_ := Aside0.mk ((by rw [hg]; exact Nat.ne_of_gt (blk_lt (g := gb108) (o := .cells #[.int .i64 a0_0, .int .i64 a0_1, .int .i64 a0_2, .int .i64 a0_3] 48 (0, 0)) (by (with_reducible repeat (first | refine blk_drewN ?_ _ | refine blk_drew ?_ | refine blk_alloc ?_ _)); exact BK108.out)) : gb112 ≠ gb108)); have n10_ := Aside0.mk ((by rw [hg]; exact Nat.ne_of_lt (blk_lt (g := gb109) (o := .cells #[.int .i64 a3_0, .int .i64 a3_1, .int .i64 a3_2] 34 (0, 0)) (by (with_reducible repeat (first | refine blk_drewN ?_ _ | refine blk_drew ?_ | refine blk_alloc ?_ _)); exact BK109.out)) : gb109 ≠ gb112)); have n11_ := Aside0.mk ((by rw [hg]; exact Nat.ne_of_gt (blk_lt (g := gb109) (o := .cells #[.int .i64 a3_0, .int .i64 a3_1, .int .i64 a3_2] 34 (0, 0)) (by (with_reducible repeat (first | refine blk_drewN ?_ _ | refine blk_drew ?_ | refine blk_alloc ?_ _)); exact BK109.out)) : gb112 ≠ gb109)); have n12_ := Aside0.mk ((by rw [hg]; exact Nat.ne_of_lt (blk_lt (g := gb110) (o := .cells #[.int .i64 0, .int .i64 0, .int .i64 0, .int .i64 0] 48 (0, 0)) (by (with_reducible repeat (first | refine blk_drewN ?_ _ | refine blk_drew ?_ | refine blk_alloc ?_ _)); exact BK110.out)) : gb110 ≠ gb112)); have n13_ := Aside0.mk ((by rw [hg]; exact Nat.ne_of_gt (blk_lt (g := gb110) (o := .cells #[.int .i64 0, .int .i64 0, .int .i64 0, .int .i64 0] 48 (0, 0)) (by (with_reducible repeat (first | refine blk_drewN ?_ _ | refine blk_drew ?_ | refine blk_alloc ?_ _)); exact BK110.out)) : gb112 ≠ gb110)); have n14_ := Aside0.mk ((by rw [hg]; exact Nat.ne_of_lt (blk_lt (g := gb111) (o := .cells #[.int .i64 0, .bool false, .int .i64 0, .int .i64 0] 36 (0, 0)) (by (with_reducible repeat (first | refine blk_drewN ?_ _ | refine blk_drew ?_ | refine blk_alloc ?_ _)); exact BK111.out)) : gb111 ≠ gb112)); have n15_ := Aside0.mk ((by rw [hg]; exact Nat.ne_of_gt (blk_lt (g := gb111) (o := .cells #[.int .i64 0, .bool false, .int .i64 0, .int .i64 0] 36 (0, 0)) (by (with_reducible repeat (first | refine blk_drewN ?_ _ | refine blk_drew ?_ | refine blk_alloc ?_ _)); exact BK111.out)) : gb112 ≠ gb111)); clear BK108; clear BK109; clear BK110; clear BK111; clear HB; have BK108 := n0_; have BK109 := n1_; have BK110 := n2_; have BK111 := n3_; have HB := n4_; have BK112 := n5_; have GW112 := n6_; have GE112 := n7_; have NB108_112 := n8_; have NB112_108 := n9_; have NB109_112 := n10_; have NB112_109 := n11_; have NB110_112 := n12_; have NB112_110 := n13_; have NB111_112 := n14_; have NB112_111 := n15_; clear n0_ n1_ n2_ n3_ n4_ n5_ n6_ n7_ n8_ n9_ n10_ n11_ n12_ n13_ n14_ n15_; clear hb hbox hg; have hnb18 := NB112_108.out; have hnc18 := NB108_112.out; have hnb19 := NB112_109.out; have hnc19 := NB109_112.out; have hnb20 := NB112_110.out; have hnc20 := NB110_112.out; have hnb21 := NB112_111.out; have hnc21 := NB111_112.out; have hcz22_0 : w17.cell? ⟨gb112, 0, none⟩ = some (.int .i64 0) := (blk_cell BK112.out 0).trans rfl; have hcz22_1 : w17.cell? ⟨gb112, 1, none⟩ = some (.bool false) := (blk_cell BK112.out 1).trans rfl; have hcz22_2 : w17.cell? ⟨gb112, 2, none⟩ = some (.int .i64 0) := (blk_cell BK112.out 2).trans rfl; have hcz22_3 : w17.cell? ⟨gb112, 3, none⟩ = some (.int .i64 0) := (blk_cell BK112.out 3).trans rfl; have hfz22_0 := blk_frozen BK112.out 0; have hfz22_1 := blk_frozen BK112.out 1; have hfz22_2 := blk_frozen BK112.out 2; have hfz22_3 := blk_frozen BK112.out 3))
  (try simp only [Act.put, List.setIfInBounds_toArray, List.set_cons_zero, List.set_cons_succ])
  go_cut [35] (fun v35 wc => ∃ (kq : Nat) (x35_4 : Bool), v35 = .bool x35_4 ∧ Aside0 (ballot_Hear.j0 kq a1 a2 x35_4 a0_0 a0_1 a0_2 a0_3 a3_0 a3_1 a3_2 0 false a0_0 a3_2 = some (r1, r2, r3, r4, r5, r6, r7, r8)) ∧ Aside0 (kq ≤ k) ∧ Aside0 (wc.heap[gb108]? = some (.cells #[.int .i64 a0_0, .int .i64 a0_1, .int .i64 a0_2, .int .i64 a0_3] 48 (0, 0))) ∧ Aside0 (wc.heap[gb109]? = some (.cells #[.int .i64 a3_0, .int .i64 a3_1, .int .i64 a3_2] 34 (0, 0))) ∧ Aside0 (wc.heap[gb110]? = some (.cells #[.int .i64 0, .int .i64 0, .int .i64 0, .int .i64 0] 48 (0, 0))) ∧ Aside0 (wc.heap[gb111]? = some (.cells #[.int .i64 0, .bool false, .int .i64 0, .int .i64 0] 36 (0, 0))) ∧ Aside0 (wc.heap[gb112]? = some (.cells #[.int .i64 0, .bool false, .int .i64 a0_0, .int .i64 a3_2] 36 (0, 0))) ∧ Aside0 (Below w.heap.size w wc))
  case first =>
    have H := HC5.out
    clear HC5
    replace H := Option.bind_eq_some_iff.mp H
    obtain ⟨t113, A230, H⟩ := H
    replace H : (if t113 = true then (if a3_0 < 0 then (ballot_Hear.j0 k a1 a2 true a0_0 a0_1 a0_2 a0_3 a3_0 a3_1 a3_2 0 false a0_0 a3_2) else (if a3_1 < 1 then (ballot_Hear.j0 k a1 a2 true a0_0 a0_1 a0_2 a0_3 a3_0 a3_1 a3_2 0 false a0_0 a3_2) else (ballot_Hear.j0 k a1 a2 (decide (a3_1 > 1099511627776)) a0_0 a0_1 a0_2 a0_3 a3_0 a3_1 a3_2 0 false a0_0 a3_2))) else (ballot_Hear.j0 k a1 a2 true a0_0 a0_1 a0_2 a0_3 a3_0 a3_1 a3_2 0 false a0_0 a3_2)) = some (r1, r2, r3, r4, r5, r6, r7, r8) := H
    have A23 := Aside0.mk A230
    clear A230
    by_cases c24 : t113 = true
    · subst c24
      have H1 : (if a3_0 < 0 then (ballot_Hear.j0 k a1 a2 true a0_0 a0_1 a0_2 a0_3 a3_0 a3_1 a3_2 0 false a0_0 a3_2) else (if a3_1 < 1 then (ballot_Hear.j0 k a1 a2 true a0_0 a0_1 a0_2 a0_3 a3_0 a3_1 a3_2 0 false a0_0 a3_2) else (ballot_Hear.j0 k a1 a2 (decide (a3_1 > 1099511627776)) a0_0 a0_1 a0_2 a0_3 a3_0 a3_1 a3_2 0 false a0_0 a3_2))) = some (r1, r2, r3, r4, r5, r6, r7, r8) := by rw [if_pos rfl] at H; exact H
      clear H
      have H := H1
      clear H1
      by_cases c25 : a3_0 < 0
      · rw [if_pos c25] at H
        have c25b0 : decide (a3_0 < 0) = true := decide_eq_true c25
        clear c25
        (first | rw [c25b0] | (simp only [i64_w, i32_w]; rw [c25b0]) | skip)
        have H' := Aside0.mk H
        clear H
        go_wp2_with (first | ((with_reducible refine gate_callee (f := 49) rfl ?_); refine goesL_ (some 19) rfl rfl Try.func49 (by kernel_rfl) rfl #[.int .i64 a1, .int .i64 a2] rfl (by (try simp only [List.map_toArray, List.map_cons, List.map_nil]); first | done | rfl | (simp only [List.length_drop, List.length_take]; rfl)) ?_; (with_reducible refine (ballot_right.calls a1 a2 true _ A23.out).mono ?_); rintro e w' ⟨rfl, ⟨nd, rfl⟩⟩; refine ⟨_, rfl, ?_⟩; have hnb26 := NB109_108.out; have hnc26 := NB108_109.out; have hnb27 := NB109_110.out; have hnc27 := NB110_109.out; have hnb28 := NB109_111.out; have hnc28 := NB111_109.out; have hnb29 := NB109_112.out; have hnc29 := NB112_109.out; have hcz30_0 : w17.cell? ⟨gb109, 0, none⟩ = some (.int .i64 a3_0) := (blk_cell BK109.out 0).trans rfl; have hcz30_1 : w17.cell? ⟨gb109, 1, none⟩ = some (.int .i64 a3_1) := (blk_cell BK109.out 1).trans rfl; have hcz30_2 : w17.cell? ⟨gb109, 2, none⟩ = some (.int .i64 a3_2) := (blk_cell BK109.out 2).trans rfl; have hfz30_0 := blk_frozen BK109.out 0; have hfz30_1 := blk_frozen BK109.out 1; have hfz30_2 := blk_frozen BK109.out 2))
        go_meet
        case rel => exact ⟨_, (true), (by first | rfl | (simp; done) | (simp [*]; done)), H', ⟨by first | omega | exact Nat.le_refl _⟩, ⟨by (with_reducible repeat (first | refine blk_drewN ?_ _ | refine blk_drew ?_ | refine blk_alloc ?_ _)); refine blk_far ?_ NB108_112.out _; (with_reducible repeat (first | refine blk_drewN ?_ _ | refine blk_drew ?_ | refine blk_alloc ?_ _)); refine blk_far ?_ NB108_112.out _; (with_reducible repeat (first | refine blk_drewN ?_ _ | refine blk_drew ?_ | refine blk_alloc ?_ _)); refine blk_far ?_ NB108_112.out _; (with_reducible repeat (first | refine blk_drewN ?_ _ | refine blk_drew ?_ | refine blk_alloc ?_ _)); refine blk_far ?_ NB108_112.out _; (with_reducible repeat (first | refine blk_drewN ?_ _ | refine blk_drew ?_ | refine blk_alloc ?_ _)); exact BK108.out⟩, ⟨by (with_reducible repeat (first | refine blk_drewN ?_ _ | refine blk_drew ?_ | refine blk_alloc ?_ _)); refine blk_far ?_ NB109_112.out _; (with_reducible repeat (first | refine blk_drewN ?_ _ | refine blk_drew ?_ | refine blk_alloc ?_ _)); refine blk_far ?_ NB109_112.out _; (with_reducible repeat (first | refine blk_drewN ?_ _ | refine blk_drew ?_ | refine blk_alloc ?_ _)); refine blk_far ?_ NB109_112.out _; (with_reducible repeat (first | refine blk_drewN ?_ _ | refine blk_drew ?_ | refine blk_alloc ?_ _)); refine blk_far ?_ NB109_112.out _; (with_reducible repeat (first | refine blk_drewN ?_ _ | refine blk_drew ?_ | refine blk_alloc ?_ _)); exact BK109.out⟩, ⟨by (with_reducible repeat (first | refine blk_drewN ?_ _ | refine blk_drew ?_ | refine blk_alloc ?_ _)); refine blk_far ?_ NB110_112.out _; (with_reducible repeat (first | refine blk_drewN ?_ _ | refine blk_drew ?_ | refine blk_alloc ?_ _)); refine blk_far ?_ NB110_112.out _; (with_reducible repeat (first | refine blk_drewN ?_ _ | refine blk_drew ?_ | refine blk_alloc ?_ _)); refine blk_far ?_ NB110_112.out _; (with_reducible repeat (first | refine blk_drewN ?_ _ | refine blk_drew ?_ | refine blk_alloc ?_ _)); refine blk_far ?_ NB110_112.out _; (with_reducible repeat (first | refine blk_drewN ?_ _ | refine blk_drew ?_ | refine blk_alloc ?_ _)); exact BK110.out⟩, ⟨by (with_reducible repeat (first | refine blk_drewN ?_ _ | refine blk_drew ?_ | refine blk_alloc ?_ _)); refine blk_far ?_ NB111_112.out _; (with_reducible repeat (first | refine blk_drewN ?_ _ | refine blk_drew ?_ | refine blk_alloc ?_ _)); refine blk_far ?_ NB111_112.out _; (with_reducible repeat (first | refine blk_drewN ?_ _ | refine blk_drew ?_ | refine blk_alloc ?_ _)); refine blk_far ?_ NB111_112.out _; (with_reducible repeat (first | refine blk_drewN ?_ _ | refine blk_drew ?_ | refine blk_alloc ?_ _)); refine blk_far ?_ NB111_112.out _; (with_reducible repeat (first | refine blk_drewN ?_ _ | refine blk_drew ?_ | refine blk_alloc ?_ _)); exact BK111.out⟩, ⟨by (with_reducible repeat (first | refine blk_drewN ?_ _ | refine blk_drew ?_ | refine blk_alloc ?_ _)); refine blk_put (cs := #[.int .i64 0, .bool false, .int .i64 a0_0, .int .i64 0]) ?_ 3 _ rfl; (with_reducible repeat (first | refine blk_drewN ?_ _ | refine blk_drew ?_ | refine blk_alloc ?_ _)); refine blk_put (cs := #[.int .i64 0, .bool false, .int .i64 0, .int .i64 0]) ?_ 2 _ rfl; (with_reducible repeat (first | refine blk_drewN ?_ _ | refine blk_drew ?_ | refine blk_alloc ?_ _)); refine blk_put (cs := #[.int .i64 0, .bool false, .int .i64 0, .int .i64 0]) ?_ 1 _ rfl; (with_reducible repeat (first | refine blk_drewN ?_ _ | refine blk_drew ?_ | refine blk_alloc ?_ _)); refine blk_put (cs := #[.int .i64 0, .bool false, .int .i64 0, .int .i64 0]) ?_ 0 _ rfl; (with_reducible repeat (first | refine blk_drewN ?_ _ | refine blk_drew ?_ | refine blk_alloc ?_ _)); exact BK112.out⟩, ⟨by repeat (first | (with_reducible first | exact HB.out | apply below_alloc | apply pw_below_drewN | apply below_drew1 | refine below_set ?_ GE108.out | refine below_set ?_ GE109.out | refine below_set ?_ GE110.out | refine below_set ?_ GE111.out | refine below_set ?_ GE112.out) | exact HB.out)⟩⟩
      · rw [if_neg c25] at H
        have c25b0 : decide (a3_0 < 0) = false := decide_eq_false c25
        clear c25
        (first | rw [c25b0] | (simp only [i64_w, i32_w]; rw [c25b0]) | skip)
        by_cases c31 : a3_1 < 1
        · rw [if_pos c31] at H
          have c31b0 : decide (a3_1 < 1) = true := decide_eq_true c31
          clear c31
          have H' := Aside0.mk H
          clear H
          go_wp2_with (first | ((with_reducible refine gate_callee (f := 49) rfl ?_); refine goesL_ (some 19) rfl rfl Try.func49 (by kernel_rfl) rfl #[.int .i64 a1, .int .i64 a2] rfl (by (try simp only [List.map_toArray, List.map_cons, List.map_nil]); first | done | rfl | (simp only [List.length_drop, List.length_take]; rfl)) ?_; (with_reducible refine (ballot_right.calls a1 a2 true _ A23.out).mono ?_); rintro e w' ⟨rfl, ⟨nd, rfl⟩⟩; refine ⟨_, rfl, ?_⟩; have hnb32 := NB109_108.out; have hnc32 := NB108_109.out; have hnb33 := NB109_110.out; have hnc33 := NB110_109.out; have hnb34 := NB109_111.out; have hnc34 := NB111_109.out; have hnb35 := NB109_112.out; have hnc35 := NB112_109.out; have hcz36_0 : w17.cell? ⟨gb109, 0, none⟩ = some (.int .i64 a3_0) := (blk_cell BK109.out 0).trans rfl; have hcz36_1 : w17.cell? ⟨gb109, 1, none⟩ = some (.int .i64 a3_1) := (blk_cell BK109.out 1).trans rfl; have hcz36_2 : w17.cell? ⟨gb109, 2, none⟩ = some (.int .i64 a3_2) := (blk_cell BK109.out 2).trans rfl; have hfz36_0 := blk_frozen BK109.out 0; have hfz36_1 := blk_frozen BK109.out 1; have hfz36_2 := blk_frozen BK109.out 2))
          go_meet
          case rel => exact ⟨_, (true), (by first | rfl | (simp; done) | (simp [*]; done)), H', ⟨by first | omega | exact Nat.le_refl _⟩, ⟨by (with_reducible repeat (first | refine blk_drewN ?_ _ | refine blk_drew ?_ | refine blk_alloc ?_ _)); refine blk_far ?_ NB108_112.out _; (with_reducible repeat (first | refine blk_drewN ?_ _ | refine blk_drew ?_ | refine blk_alloc ?_ _)); refine blk_far ?_ NB108_112.out _; (with_reducible repeat (first | refine blk_drewN ?_ _ | refine blk_drew ?_ | refine blk_alloc ?_ _)); refine blk_far ?_ NB108_112.out _; (with_reducible repeat (first | refine blk_drewN ?_ _ | refine blk_drew ?_ | refine blk_alloc ?_ _)); refine blk_far ?_ NB108_112.out _; (with_reducible repeat (first | refine blk_drewN ?_ _ | refine blk_drew ?_ | refine blk_alloc ?_ _)); exact BK108.out⟩, ⟨by (with_reducible repeat (first | refine blk_drewN ?_ _ | refine blk_drew ?_ | refine blk_alloc ?_ _)); refine blk_far ?_ NB109_112.out _; (with_reducible repeat (first | refine blk_drewN ?_ _ | refine blk_drew ?_ | refine blk_alloc ?_ _)); refine blk_far ?_ NB109_112.out _; (with_reducible repeat (first | refine blk_drewN ?_ _ | refine blk_drew ?_ | refine blk_alloc ?_ _)); refine blk_far ?_ NB109_112.out _; (with_reducible repeat (first | refine blk_drewN ?_ _ | refine blk_drew ?_ | refine blk_alloc ?_ _)); refine blk_far ?_ NB109_112.out _; (with_reducible repeat (first | refine blk_drewN ?_ _ | refine blk_drew ?_ | refine blk_alloc ?_ _)); exact BK109.out⟩, ⟨by (with_reducible repeat (first | refine blk_drewN ?_ _ | refine blk_drew ?_ | refine blk_alloc ?_ _)); refine blk_far ?_ NB110_112.out _; (with_reducible repeat (first | refine blk_drewN ?_ _ | refine blk_drew ?_ | refine blk_alloc ?_ _)); refine blk_far ?_ NB110_112.out _; (with_reducible repeat (first | refine blk_drewN ?_ _ | refine blk_drew ?_ | refine blk_alloc ?_ _)); refine blk_far ?_ NB110_112.out _; (with_reducible repeat (first | refine blk_drewN ?_ _ | refine blk_drew ?_ | refine blk_alloc ?_ _)); refine blk_far ?_ NB110_112.out _; (with_reducible repeat (first | refine blk_drewN ?_ _ | refine blk_drew ?_ | refine blk_alloc ?_ _)); exact BK110.out⟩, ⟨by (with_reducible repeat (first | refine blk_drewN ?_ _ | refine blk_drew ?_ | refine blk_alloc ?_ _)); refine blk_far ?_ NB111_112.out _; (with_reducible repeat (first | refine blk_drewN ?_ _ | refine blk_drew ?_ | refine blk_alloc ?_ _)); refine blk_far ?_ NB111_112.out _; (with_reducible repeat (first | refine blk_drewN ?_ _ | refine blk_drew ?_ | refine blk_alloc ?_ _)); refine blk_far ?_ NB111_112.out _; (with_reducible repeat (first | refine blk_drewN ?_ _ | refine blk_drew ?_ | refine blk_alloc ?_ _)); refine blk_far ?_ NB111_112.out _; (with_reducible repeat (first | refine blk_drewN ?_ _ | refine blk_drew ?_ | refine blk_alloc ?_ _)); exact BK111.out⟩, ⟨by (with_reducible repeat (first | refine blk_drewN ?_ _ | refine blk_drew ?_ | refine blk_alloc ?_ _)); refine blk_put (cs := #[.int .i64 0, .bool false, .int .i64 a0_0, .int .i64 0]) ?_ 3 _ rfl; (with_reducible repeat (first | refine blk_drewN ?_ _ | refine blk_drew ?_ | refine blk_alloc ?_ _)); refine blk_put (cs := #[.int .i64 0, .bool false, .int .i64 0, .int .i64 0]) ?_ 2 _ rfl; (with_reducible repeat (first | refine blk_drewN ?_ _ | refine blk_drew ?_ | refine blk_alloc ?_ _)); refine blk_put (cs := #[.int .i64 0, .bool false, .int .i64 0, .int .i64 0]) ?_ 1 _ rfl; (with_reducible repeat (first | refine blk_drewN ?_ _ | refine blk_drew ?_ | refine blk_alloc ?_ _)); refine blk_put (cs := #[.int .i64 0, .bool false, .int .i64 0, .int .i64 0]) ?_ 0 _ rfl; (with_reducible repeat (first | refine blk_drewN ?_ _ | refine blk_drew ?_ | refine blk_alloc ?_ _)); exact BK112.out⟩, ⟨by repeat (first | (with_reducible first | exact HB.out | apply below_alloc | apply pw_below_drewN | apply below_drew1 | refine below_set ?_ GE108.out | refine below_set ?_ GE109.out | refine below_set ?_ GE110.out | refine below_set ?_ GE111.out | refine below_set ?_ GE112.out) | exact HB.out)⟩⟩
        · rw [if_neg c31] at H
          have c31b0 : decide (a3_1 < 1) = false := decide_eq_false c31
          clear c31
          have H' := Aside0.mk H
          clear H
          go_wp2_with (first | ((with_reducible refine gate_callee (f := 49) rfl ?_); refine goesL_ (some 19) rfl rfl Try.func49 (by kernel_rfl) rfl #[.int .i64 a1, .int .i64 a2] rfl (by (try simp only [List.map_toArray, List.map_cons, List.map_nil]); first | done | rfl | (simp only [List.length_drop, List.length_take]; rfl)) ?_; (with_reducible refine (ballot_right.calls a1 a2 true _ A23.out).mono ?_); rintro e w' ⟨rfl, ⟨nd, rfl⟩⟩; refine ⟨_, rfl, ?_⟩; have hnb37 := NB109_108.out; have hnc37 := NB108_109.out; have hnb38 := NB109_110.out; have hnc38 := NB110_109.out; have hnb39 := NB109_111.out; have hnc39 := NB111_109.out; have hnb40 := NB109_112.out; have hnc40 := NB112_109.out; have hcz41_0 : w17.cell? ⟨gb109, 0, none⟩ = some (.int .i64 a3_0) := (blk_cell BK109.out 0).trans rfl; have hcz41_1 : w17.cell? ⟨gb109, 1, none⟩ = some (.int .i64 a3_1) := (blk_cell BK109.out 1).trans rfl; have hcz41_2 : w17.cell? ⟨gb109, 2, none⟩ = some (.int .i64 a3_2) := (blk_cell BK109.out 2).trans rfl; have hfz41_0 := blk_frozen BK109.out 0; have hfz41_1 := blk_frozen BK109.out 1; have hfz41_2 := blk_frozen BK109.out 2))
          go_meet
          case rel => exact ⟨_, (decide (a3_1 > 1099511627776)), (by first | rfl | (simp; done) | (simp [*]; done)), H', ⟨by first | omega | exact Nat.le_refl _⟩, ⟨by (with_reducible repeat (first | refine blk_drewN ?_ _ | refine blk_drew ?_ | refine blk_alloc ?_ _)); refine blk_far ?_ NB108_112.out _; (with_reducible repeat (first | refine blk_drewN ?_ _ | refine blk_drew ?_ | refine blk_alloc ?_ _)); refine blk_far ?_ NB108_112.out _; (with_reducible repeat (first | refine blk_drewN ?_ _ | refine blk_drew ?_ | refine blk_alloc ?_ _)); refine blk_far ?_ NB108_112.out _; (with_reducible repeat (first | refine blk_drewN ?_ _ | refine blk_drew ?_ | refine blk_alloc ?_ _)); refine blk_far ?_ NB108_112.out _; (with_reducible repeat (first | refine blk_drewN ?_ _ | refine blk_drew ?_ | refine blk_alloc ?_ _)); exact BK108.out⟩, ⟨by (with_reducible repeat (first | refine blk_drewN ?_ _ | refine blk_drew ?_ | refine blk_alloc ?_ _)); refine blk_far ?_ NB109_112.out _; (with_reducible repeat (first | refine blk_drewN ?_ _ | refine blk_drew ?_ | refine blk_alloc ?_ _)); refine blk_far ?_ NB109_112.out _; (with_reducible repeat (first | refine blk_drewN ?_ _ | refine blk_drew ?_ | refine blk_alloc ?_ _)); refine blk_far ?_ NB109_112.out _; (with_reducible repeat (first | refine blk_drewN ?_ _ | refine blk_drew ?_ | refine blk_alloc ?_ _)); refine blk_far ?_ NB109_112.out _; (with_reducible repeat (first | refine blk_drewN ?_ _ | refine blk_drew ?_ | refine blk_alloc ?_ _)); exact BK109.out⟩, ⟨by (with_reducible repeat (first | refine blk_drewN ?_ _ | refine blk_drew ?_ | refine blk_alloc ?_ _)); refine blk_far ?_ NB110_112.out _; (with_reducible repeat (first | refine blk_drewN ?_ _ | refine blk_drew ?_ | refine blk_alloc ?_ _)); refine blk_far ?_ NB110_112.out _; (with_reducible repeat (first | refine blk_drewN ?_ _ | refine blk_drew ?_ | refine blk_alloc ?_ _)); refine blk_far ?_ NB110_112.out _; (with_reducible repeat (first | refine blk_drewN ?_ _ | refine blk_drew ?_ | refine blk_alloc ?_ _)); refine blk_far ?_ NB110_112.out _; (with_reducible repeat (first | refine blk_drewN ?_ _ | refine blk_drew ?_ | refine blk_alloc ?_ _)); exact BK110.out⟩, ⟨by (with_reducible repeat (first | refine blk_drewN ?_ _ | refine blk_drew ?_ | refine blk_alloc ?_ _)); refine blk_far ?_ NB111_112.out _; (with_reducible repeat (first | refine blk_drewN ?_ _ | refine blk_drew ?_ | refine blk_alloc ?_ _)); refine blk_far ?_ NB111_112.out _; (with_reducible repeat (first | refine blk_drewN ?_ _ | refine blk_drew ?_ | refine blk_alloc ?_ _)); refine blk_far ?_ NB111_112.out _; (with_reducible repeat (first | refine blk_drewN ?_ _ | refine blk_drew ?_ | refine blk_alloc ?_ _)); refine blk_far ?_ NB111_112.out _; (with_reducible repeat (first | refine blk_drewN ?_ _ | refine blk_drew ?_ | refine blk_alloc ?_ _)); exact BK111.out⟩, ⟨by (with_reducible repeat (first | refine blk_drewN ?_ _ | refine blk_drew ?_ | refine blk_alloc ?_ _)); refine blk_put (cs := #[.int .i64 0, .bool false, .int .i64 a0_0, .int .i64 0]) ?_ 3 _ rfl; (with_reducible repeat (first | refine blk_drewN ?_ _ | refine blk_drew ?_ | refine blk_alloc ?_ _)); refine blk_put (cs := #[.int .i64 0, .bool false, .int .i64 0, .int .i64 0]) ?_ 2 _ rfl; (with_reducible repeat (first | refine blk_drewN ?_ _ | refine blk_drew ?_ | refine blk_alloc ?_ _)); refine blk_put (cs := #[.int .i64 0, .bool false, .int .i64 0, .int .i64 0]) ?_ 1 _ rfl; (with_reducible repeat (first | refine blk_drewN ?_ _ | refine blk_drew ?_ | refine blk_alloc ?_ _)); refine blk_put (cs := #[.int .i64 0, .bool false, .int .i64 0, .int .i64 0]) ?_ 0 _ rfl; (with_reducible repeat (first | refine blk_drewN ?_ _ | refine blk_drew ?_ | refine blk_alloc ?_ _)); exact BK112.out⟩, ⟨by repeat (first | (with_reducible first | exact HB.out | apply below_alloc | apply pw_below_drewN | apply below_drew1 | refine below_set ?_ GE108.out | refine below_set ?_ GE109.out | refine below_set ?_ GE110.out | refine below_set ?_ GE111.out | refine below_set ?_ GE112.out) | exact HB.out)⟩⟩
    · replace c24 := Bool.eq_false_iff.mpr c24
      subst c24
      have H1 : (ballot_Hear.j0 k a1 a2 true a0_0 a0_1 a0_2 a0_3 a3_0 a3_1 a3_2 0 false a0_0 a3_2) = some (r1, r2, r3, r4, r5, r6, r7, r8) := by rw [if_neg (show ¬ (false = true) by decide)] at H; exact H
      clear H
      have H := H1
      clear H1
      have H' := Aside0.mk H
      clear H
      go_wp2_with (first | ((with_reducible refine gate_callee (f := 49) rfl ?_); refine goesL_ (some 19) rfl rfl Try.func49 (by kernel_rfl) rfl #[.int .i64 a1, .int .i64 a2] rfl (by (try simp only [List.map_toArray, List.map_cons, List.map_nil]); first | done | rfl | (simp only [List.length_drop, List.length_take]; rfl)) ?_; (with_reducible refine (ballot_right.calls a1 a2 false _ A23.out).mono ?_); rintro e w' ⟨rfl, ⟨nd, rfl⟩⟩; refine ⟨_, rfl, ?_⟩))
      go_meet
      case rel => exact ⟨_, (true), (by first | rfl | (simp; done) | (simp [*]; done)), H', ⟨by first | omega | exact Nat.le_refl _⟩, ⟨by (with_reducible repeat (first | refine blk_drewN ?_ _ | refine blk_drew ?_ | refine blk_alloc ?_ _)); refine blk_far ?_ NB108_112.out _; (with_reducible repeat (first | refine blk_drewN ?_ _ | refine blk_drew ?_ | refine blk_alloc ?_ _)); refine blk_far ?_ NB108_112.out _; (with_reducible repeat (first | refine blk_drewN ?_ _ | refine blk_drew ?_ | refine blk_alloc ?_ _)); refine blk_far ?_ NB108_112.out _; (with_reducible repeat (first | refine blk_drewN ?_ _ | refine blk_drew ?_ | refine blk_alloc ?_ _)); refine blk_far ?_ NB108_112.out _; (with_reducible repeat (first | refine blk_drewN ?_ _ | refine blk_drew ?_ | refine blk_alloc ?_ _)); exact BK108.out⟩, ⟨by (with_reducible repeat (first | refine blk_drewN ?_ _ | refine blk_drew ?_ | refine blk_alloc ?_ _)); refine blk_far ?_ NB109_112.out _; (with_reducible repeat (first | refine blk_drewN ?_ _ | refine blk_drew ?_ | refine blk_alloc ?_ _)); refine blk_far ?_ NB109_112.out _; (with_reducible repeat (first | refine blk_drewN ?_ _ | refine blk_drew ?_ | refine blk_alloc ?_ _)); refine blk_far ?_ NB109_112.out _; (with_reducible repeat (first | refine blk_drewN ?_ _ | refine blk_drew ?_ | refine blk_alloc ?_ _)); refine blk_far ?_ NB109_112.out _; (with_reducible repeat (first | refine blk_drewN ?_ _ | refine blk_drew ?_ | refine blk_alloc ?_ _)); exact BK109.out⟩, ⟨by (with_reducible repeat (first | refine blk_drewN ?_ _ | refine blk_drew ?_ | refine blk_alloc ?_ _)); refine blk_far ?_ NB110_112.out _; (with_reducible repeat (first | refine blk_drewN ?_ _ | refine blk_drew ?_ | refine blk_alloc ?_ _)); refine blk_far ?_ NB110_112.out _; (with_reducible repeat (first | refine blk_drewN ?_ _ | refine blk_drew ?_ | refine blk_alloc ?_ _)); refine blk_far ?_ NB110_112.out _; (with_reducible repeat (first | refine blk_drewN ?_ _ | refine blk_drew ?_ | refine blk_alloc ?_ _)); refine blk_far ?_ NB110_112.out _; (with_reducible repeat (first | refine blk_drewN ?_ _ | refine blk_drew ?_ | refine blk_alloc ?_ _)); exact BK110.out⟩, ⟨by (with_reducible repeat (first | refine blk_drewN ?_ _ | refine blk_drew ?_ | refine blk_alloc ?_ _)); refine blk_far ?_ NB111_112.out _; (with_reducible repeat (first | refine blk_drewN ?_ _ | refine blk_drew ?_ | refine blk_alloc ?_ _)); refine blk_far ?_ NB111_112.out _; (with_reducible repeat (first | refine blk_drewN ?_ _ | refine blk_drew ?_ | refine blk_alloc ?_ _)); refine blk_far ?_ NB111_112.out _; (with_reducible repeat (first | refine blk_drewN ?_ _ | refine blk_drew ?_ | refine blk_alloc ?_ _)); refine blk_far ?_ NB111_112.out _; (with_reducible repeat (first | refine blk_drewN ?_ _ | refine blk_drew ?_ | refine blk_alloc ?_ _)); exact BK111.out⟩, ⟨by (with_reducible repeat (first | refine blk_drewN ?_ _ | refine blk_drew ?_ | refine blk_alloc ?_ _)); refine blk_put (cs := #[.int .i64 0, .bool false, .int .i64 a0_0, .int .i64 0]) ?_ 3 _ rfl; (with_reducible repeat (first | refine blk_drewN ?_ _ | refine blk_drew ?_ | refine blk_alloc ?_ _)); refine blk_put (cs := #[.int .i64 0, .bool false, .int .i64 0, .int .i64 0]) ?_ 2 _ rfl; (with_reducible repeat (first | refine blk_drewN ?_ _ | refine blk_drew ?_ | refine blk_alloc ?_ _)); refine blk_put (cs := #[.int .i64 0, .bool false, .int .i64 0, .int .i64 0]) ?_ 1 _ rfl; (with_reducible repeat (first | refine blk_drewN ?_ _ | refine blk_drew ?_ | refine blk_alloc ?_ _)); refine blk_put (cs := #[.int .i64 0, .bool false, .int .i64 0, .int .i64 0]) ?_ 0 _ rfl; (with_reducible repeat (first | refine blk_drewN ?_ _ | refine blk_drew ?_ | refine blk_alloc ?_ _)); exact BK112.out⟩, ⟨by repeat (first | (with_reducible first | exact HB.out | apply below_alloc | apply pw_below_drewN | apply below_drew1 | refine below_set ?_ GE108.out | refine below_set ?_ GE109.out | refine below_set ?_ GE110.out | refine below_set ?_ GE111.out | refine below_set ?_ GE112.out) | exact HB.out)⟩⟩
  case rest =>
    clear HC5
    try clear c1
    try clear c2
    try clear p2
    try clear c3
    try clear c4
    try clear c10
    try clear c11
    try clear c12
    try clear c14
    try clear c15
    try clear c18
    try clear c19
    try clear c20
    try clear c21
    try clear c24
    try clear c25
    try clear c25b0
    try clear c26
    try clear c27
    try clear c28
    try clear c29
    try clear c30
    try clear c31
    try clear c31b0
    try clear c32
    try clear c33
    try clear c34
    try clear c35
    try clear c37
    try clear c38
    try clear c39
    try clear c40
    try clear hcz13_0
    try clear hcz13_1
    try clear hcz13_2
    try clear hcz13_3
    try clear hcz16_0
    try clear hcz16_1
    try clear hcz16_2
    try clear hcz22_0
    try clear hcz22_1
    try clear hcz22_2
    try clear hcz22_3
    try clear hcz30_0
    try clear hcz30_1
    try clear hcz30_2
    try clear hcz36_0
    try clear hcz36_1
    try clear hcz36_2
    try clear hcz41_0
    try clear hcz41_1
    try clear hcz41_2
    try clear hfz13_0
    try clear hfz13_1
    try clear hfz13_2
    try clear hfz13_3
    try clear hfz16_0
    try clear hfz16_1
    try clear hfz16_2
    try clear hfz22_0
    try clear hfz22_1
    try clear hfz22_2
    try clear hfz22_3
    try clear hfz30_0
    try clear hfz30_1
    try clear hfz30_2
    try clear hfz36_0
    try clear hfz36_1
    try clear hfz36_2
    try clear hfz41_0
    try clear hfz41_1
    try clear hfz41_2
    obtain ⟨kq, x35_4, rfl, HA, HJ4, BK108, BK109, BK110, BK111, BK112, HB⟩ := hcut
    cases kq with
    | zero => exact absurd HA.out (by simp [ballot_Hear.j0])
    | succ kj4 =>
      have H := HA.out
      clear HA
      simp only [ballot_Hear.j0] at H
      by_cases c42 : x35_4 = true
      · subst c42
        have H1 : (some (a0_0, a0_1, a0_2, a0_3, 0, false, a0_0, a3_2)) = some (r1, r2, r3, r4, r5, r6, r7, r8) := by rw [if_pos rfl] at H; exact H
        clear H
        have H := H1
        clear H1
        simp only [Option.some.injEq, Prod.mk.injEq] at H
        obtain ⟨rfl, rfl, rfl, rfl, rfl, rfl, rfl, rfl⟩ := H
        try go_wp2
        have n0_ := Aside0.mk (blk_drew BK108.out)
        have n1_ := Aside0.mk (blk_drew BK109.out)
        have n2_ := Aside0.mk (blk_drew BK110.out)
        have n3_ := Aside0.mk (blk_drew BK111.out)
        have n4_ := Aside0.mk (blk_drew BK112.out)
        have n5_ := Aside0.mk (below_drew1 HB.out)
        clear BK108
        clear BK109
        clear BK110
        clear BK111
        clear BK112
        clear HB
        have BK108 := n0_
        have BK109 := n1_
        have BK110 := n2_
        have BK111 := n3_
        have BK112 := n4_
        have HB := n5_
        clear n0_ n1_ n2_ n3_ n4_ n5_
        refine start_ (n := 4) (S := fun w' => w'.cell? ⟨gb108, 0, none⟩ = some (.int .i64 a0_0) ∧ w'.cell? ⟨gb108, 1, none⟩ = some (.int .i64 a0_1) ∧ w'.cell? ⟨gb108, 2, none⟩ = some (.int .i64 a0_2) ∧ w'.cell? ⟨gb108, 3, none⟩ = some (.int .i64 a0_3) ∧ w'.cell? ⟨gb112, 0, none⟩ = some (.int .i64 0) ∧ w'.cell? ⟨gb112, 1, none⟩ = some (.bool false) ∧ w'.cell? ⟨gb112, 2, none⟩ = some (.int .i64 a0_0) ∧ w'.cell? ⟨gb112, 3, none⟩ = some (.int .i64 a3_2)) (ds := []) #[false, false, false, false] (by kernel_rfl) rfl rfl ⟨(blk_cell BK108.out 0).trans rfl, (blk_cell BK108.out 1).trans rfl, (blk_cell BK108.out 2).trans rfl, (blk_cell BK108.out 3).trans rfl, (blk_cell BK112.out 0).trans rfl, (blk_cell BK112.out 1).trans rfl, (blk_cell BK112.out 2).trans rfl, (blk_cell BK112.out 3).trans rfl⟩ (fun hHeld => ?_)
        generalize wc.drew = w43 at BK108 BK109 BK110 BK111 BK112 HB hHeld ⊢
        refine take_ (i := 0) (N := some 36) (v := ?_) (a' := ?_) #[true, false, false, false] rfl rfl (by kernel_rfl) (fun _ _ _ h => h) (Or.inl ⟨by rfl, ?_⟩) hHeld ?_ ?_
        rotate_left
        · rintro w' ⟨s0, s1, s2, s3, s4, s5, s6, s7⟩
          go_simp
          with_reducible rfl
        rotate_left
        · simp only [Act.put, List.setIfInBounds_toArray, List.set_cons_zero, List.set_cons_succ, i64_w, i32_w]
          rfl
        refine take_ (i := 1) (N := some 37) (v := ?_) (a' := ?_) #[true, true, false, false] rfl rfl (by kernel_rfl) (fun _ _ _ h => h) (Or.inl ⟨by rfl, ?_⟩) hHeld ?_ ?_
        rotate_left
        · rintro w' ⟨s0, s1, s2, s3, s4, s5, s6, s7⟩
          go_simp
          with_reducible rfl
        rotate_left
        · simp only [Act.put, List.setIfInBounds_toArray, List.set_cons_zero, List.set_cons_succ, i64_w, i32_w]
          rfl
        refine one_ (i := 2) (N := none) #[true, true, true, false] rfl rfl (by kernel_rfl) (by decide) (fun K hK => ?_)
        have hs44 : w43.cell? ⟨gb110, 0, none⟩ = some (.int .i64 0) := (blk_cell BK110.out 0).trans rfl
        have hfs44 := blk_frozen BK110.out 0
        have hns44_0 := NB108_110.out
        have hns44_1 := NB109_110.out
        have hns44_3 := NB111_110.out
        have hns44_4 := NB112_110.out
        have hms44_0 := NB110_108.out
        have hms44_1 := NB110_109.out
        have hms44_3 := NB110_111.out
        have hms44_4 := NB110_112.out
        have hs45 : w43.cell? ⟨gb110, 1, none⟩ = some (.int .i64 0) := (blk_cell BK110.out 1).trans rfl
        have hfs45 := blk_frozen BK110.out 1
        have hns45_0 := NB108_110.out
        have hns45_1 := NB109_110.out
        have hns45_3 := NB111_110.out
        have hns45_4 := NB112_110.out
        have hms45_0 := NB110_108.out
        have hms45_1 := NB110_109.out
        have hms45_3 := NB110_111.out
        have hms45_4 := NB110_112.out
        have hs46 : w43.cell? ⟨gb110, 2, none⟩ = some (.int .i64 0) := (blk_cell BK110.out 2).trans rfl
        have hfs46 := blk_frozen BK110.out 2
        have hns46_0 := NB108_110.out
        have hns46_1 := NB109_110.out
        have hns46_3 := NB111_110.out
        have hns46_4 := NB112_110.out
        have hms46_0 := NB110_108.out
        have hms46_1 := NB110_109.out
        have hms46_3 := NB110_111.out
        have hms46_4 := NB110_112.out
        have hs47 : w43.cell? ⟨gb110, 3, none⟩ = some (.int .i64 0) := (blk_cell BK110.out 3).trans rfl
        have hfs47 := blk_frozen BK110.out 3
        have hns47_0 := NB108_110.out
        have hns47_1 := NB109_110.out
        have hns47_3 := NB111_110.out
        have hns47_4 := NB112_110.out
        have hms47_0 := NB110_108.out
        have hms47_1 := NB110_109.out
        have hms47_3 := NB110_111.out
        have hms47_4 := NB110_112.out
        refine skip_ (w1 := ?_) (by rfl) rfl ?_ ?_
        rotate_left
        · go_simp
          rfl
        refine hK.out _ _ ⟨((cell_far (p := ⟨gb110, _, none⟩) NB108_110.out _).trans (((cell_far (p := ⟨gb110, _, none⟩) NB108_110.out _).trans (((cell_far (p := ⟨gb110, _, none⟩) NB108_110.out _).trans (((cell_far (p := ⟨gb110, _, none⟩) NB108_110.out _).trans (hHeld.1)))))))), ((cell_far (p := ⟨gb110, _, none⟩) NB108_110.out _).trans (((cell_far (p := ⟨gb110, _, none⟩) NB108_110.out _).trans (((cell_far (p := ⟨gb110, _, none⟩) NB108_110.out _).trans (((cell_far (p := ⟨gb110, _, none⟩) NB108_110.out _).trans (hHeld.2.1)))))))), ((cell_far (p := ⟨gb110, _, none⟩) NB108_110.out _).trans (((cell_far (p := ⟨gb110, _, none⟩) NB108_110.out _).trans (((cell_far (p := ⟨gb110, _, none⟩) NB108_110.out _).trans (((cell_far (p := ⟨gb110, _, none⟩) NB108_110.out _).trans (hHeld.2.2.1)))))))), ((cell_far (p := ⟨gb110, _, none⟩) NB108_110.out _).trans (((cell_far (p := ⟨gb110, _, none⟩) NB108_110.out _).trans (((cell_far (p := ⟨gb110, _, none⟩) NB108_110.out _).trans (((cell_far (p := ⟨gb110, _, none⟩) NB108_110.out _).trans (hHeld.2.2.2.1)))))))), ((cell_far (p := ⟨gb110, _, none⟩) NB112_110.out _).trans (((cell_far (p := ⟨gb110, _, none⟩) NB112_110.out _).trans (((cell_far (p := ⟨gb110, _, none⟩) NB112_110.out _).trans (((cell_far (p := ⟨gb110, _, none⟩) NB112_110.out _).trans (hHeld.2.2.2.2.1)))))))), ((cell_far (p := ⟨gb110, _, none⟩) NB112_110.out _).trans (((cell_far (p := ⟨gb110, _, none⟩) NB112_110.out _).trans (((cell_far (p := ⟨gb110, _, none⟩) NB112_110.out _).trans (((cell_far (p := ⟨gb110, _, none⟩) NB112_110.out _).trans (hHeld.2.2.2.2.2.1)))))))), ((cell_far (p := ⟨gb110, _, none⟩) NB112_110.out _).trans (((cell_far (p := ⟨gb110, _, none⟩) NB112_110.out _).trans (((cell_far (p := ⟨gb110, _, none⟩) NB112_110.out _).trans (((cell_far (p := ⟨gb110, _, none⟩) NB112_110.out _).trans (hHeld.2.2.2.2.2.2.1)))))))), ((cell_far (p := ⟨gb110, _, none⟩) NB112_110.out _).trans (((cell_far (p := ⟨gb110, _, none⟩) NB112_110.out _).trans (((cell_far (p := ⟨gb110, _, none⟩) NB112_110.out _).trans (((cell_far (p := ⟨gb110, _, none⟩) NB112_110.out _).trans (hHeld.2.2.2.2.2.2.2))))))))⟩ (fun hHeld => ?_)
        clear hK K
        refine one_ (i := 3) (N := none) #[true, true, true, true] rfl rfl (by kernel_rfl) (by decide) (fun K hK => ?_)
        have hs48 : w43.cell? ⟨gb111, 0, none⟩ = some (.int .i64 0) := (blk_cell BK111.out 0).trans rfl
        have hfs48 := blk_frozen BK111.out 0
        have hns48_0 := NB108_111.out
        have hns48_1 := NB109_111.out
        have hns48_2 := NB110_111.out
        have hns48_4 := NB112_111.out
        have hms48_0 := NB111_108.out
        have hms48_1 := NB111_109.out
        have hms48_2 := NB111_110.out
        have hms48_4 := NB111_112.out
        have hs49 : w43.cell? ⟨gb111, 1, none⟩ = some (.bool false) := (blk_cell BK111.out 1).trans rfl
        have hfs49 := blk_frozen BK111.out 1
        have hns49_0 := NB108_111.out
        have hns49_1 := NB109_111.out
        have hns49_2 := NB110_111.out
        have hns49_4 := NB112_111.out
        have hms49_0 := NB111_108.out
        have hms49_1 := NB111_109.out
        have hms49_2 := NB111_110.out
        have hms49_4 := NB111_112.out
        have hs50 : w43.cell? ⟨gb111, 2, none⟩ = some (.int .i64 0) := (blk_cell BK111.out 2).trans rfl
        have hfs50 := blk_frozen BK111.out 2
        have hns50_0 := NB108_111.out
        have hns50_1 := NB109_111.out
        have hns50_2 := NB110_111.out
        have hns50_4 := NB112_111.out
        have hms50_0 := NB111_108.out
        have hms50_1 := NB111_109.out
        have hms50_2 := NB111_110.out
        have hms50_4 := NB111_112.out
        have hs51 : w43.cell? ⟨gb111, 3, none⟩ = some (.int .i64 0) := (blk_cell BK111.out 3).trans rfl
        have hfs51 := blk_frozen BK111.out 3
        have hns51_0 := NB108_111.out
        have hns51_1 := NB109_111.out
        have hns51_2 := NB110_111.out
        have hns51_4 := NB112_111.out
        have hms51_0 := NB111_108.out
        have hms51_1 := NB111_109.out
        have hms51_2 := NB111_110.out
        have hms51_4 := NB111_112.out
        refine skip_ (w1 := ?_) (by rfl) rfl ?_ ?_
        rotate_left
        · go_simp
          rfl
        refine hK.out _ _ ⟨((cell_far (p := ⟨gb111, _, none⟩) NB108_111.out _).trans (((cell_far (p := ⟨gb111, _, none⟩) NB108_111.out _).trans (((cell_far (p := ⟨gb111, _, none⟩) NB108_111.out _).trans (((cell_far (p := ⟨gb111, _, none⟩) NB108_111.out _).trans (hHeld.1)))))))), ((cell_far (p := ⟨gb111, _, none⟩) NB108_111.out _).trans (((cell_far (p := ⟨gb111, _, none⟩) NB108_111.out _).trans (((cell_far (p := ⟨gb111, _, none⟩) NB108_111.out _).trans (((cell_far (p := ⟨gb111, _, none⟩) NB108_111.out _).trans (hHeld.2.1)))))))), ((cell_far (p := ⟨gb111, _, none⟩) NB108_111.out _).trans (((cell_far (p := ⟨gb111, _, none⟩) NB108_111.out _).trans (((cell_far (p := ⟨gb111, _, none⟩) NB108_111.out _).trans (((cell_far (p := ⟨gb111, _, none⟩) NB108_111.out _).trans (hHeld.2.2.1)))))))), ((cell_far (p := ⟨gb111, _, none⟩) NB108_111.out _).trans (((cell_far (p := ⟨gb111, _, none⟩) NB108_111.out _).trans (((cell_far (p := ⟨gb111, _, none⟩) NB108_111.out _).trans (((cell_far (p := ⟨gb111, _, none⟩) NB108_111.out _).trans (hHeld.2.2.2.1)))))))), ((cell_far (p := ⟨gb111, _, none⟩) NB112_111.out _).trans (((cell_far (p := ⟨gb111, _, none⟩) NB112_111.out _).trans (((cell_far (p := ⟨gb111, _, none⟩) NB112_111.out _).trans (((cell_far (p := ⟨gb111, _, none⟩) NB112_111.out _).trans (hHeld.2.2.2.2.1)))))))), ((cell_far (p := ⟨gb111, _, none⟩) NB112_111.out _).trans (((cell_far (p := ⟨gb111, _, none⟩) NB112_111.out _).trans (((cell_far (p := ⟨gb111, _, none⟩) NB112_111.out _).trans (((cell_far (p := ⟨gb111, _, none⟩) NB112_111.out _).trans (hHeld.2.2.2.2.2.1)))))))), ((cell_far (p := ⟨gb111, _, none⟩) NB112_111.out _).trans (((cell_far (p := ⟨gb111, _, none⟩) NB112_111.out _).trans (((cell_far (p := ⟨gb111, _, none⟩) NB112_111.out _).trans (((cell_far (p := ⟨gb111, _, none⟩) NB112_111.out _).trans (hHeld.2.2.2.2.2.2.1)))))))), ((cell_far (p := ⟨gb111, _, none⟩) NB112_111.out _).trans (((cell_far (p := ⟨gb111, _, none⟩) NB112_111.out _).trans (((cell_far (p := ⟨gb111, _, none⟩) NB112_111.out _).trans (((cell_far (p := ⟨gb111, _, none⟩) NB112_111.out _).trans (hHeld.2.2.2.2.2.2.2))))))))⟩ (fun hHeld => ?_)
        clear hK K
        refine done_ (by kernel_rfl) ?_
        try go_wp2
        refine bodyPost_ret (results_cc rfl _ _ gb110 gb111 48 36 #[.int .i64 a0_0, .int .i64 a0_1, .int .i64 a0_2, .int .i64 a0_3] #[.int .i64 0, .bool false, .int .i64 a0_0, .int .i64 a3_2] (0, 0) (0, 0) _ _ rfl (by (with_reducible repeat (first | refine blk_drewN ?_ _ | refine blk_drew ?_ | refine blk_alloc ?_ _)); refine blk_far ?_ NB110_111.out _; (with_reducible repeat (first | refine blk_drewN ?_ _ | refine blk_drew ?_ | refine blk_alloc ?_ _)); refine blk_far ?_ NB110_111.out _; (with_reducible repeat (first | refine blk_drewN ?_ _ | refine blk_drew ?_ | refine blk_alloc ?_ _)); refine blk_far ?_ NB110_111.out _; (with_reducible repeat (first | refine blk_drewN ?_ _ | refine blk_drew ?_ | refine blk_alloc ?_ _)); refine blk_far ?_ NB110_111.out _; (with_reducible repeat (first | refine blk_drewN ?_ _ | refine blk_drew ?_ | refine blk_alloc ?_ _)); refine blk_put (cs := #[.int .i64 a0_0, .int .i64 a0_1, .int .i64 a0_2, .int .i64 0]) ?_ 3 _ rfl; (with_reducible repeat (first | refine blk_drewN ?_ _ | refine blk_drew ?_ | refine blk_alloc ?_ _)); refine blk_put (cs := #[.int .i64 a0_0, .int .i64 a0_1, .int .i64 0, .int .i64 0]) ?_ 2 _ rfl; (with_reducible repeat (first | refine blk_drewN ?_ _ | refine blk_drew ?_ | refine blk_alloc ?_ _)); refine blk_put (cs := #[.int .i64 a0_0, .int .i64 0, .int .i64 0, .int .i64 0]) ?_ 1 _ rfl; (with_reducible repeat (first | refine blk_drewN ?_ _ | refine blk_drew ?_ | refine blk_alloc ?_ _)); refine blk_put (cs := #[.int .i64 0, .int .i64 0, .int .i64 0, .int .i64 0]) ?_ 0 _ rfl; (with_reducible repeat (first | refine blk_drewN ?_ _ | refine blk_drew ?_ | refine blk_alloc ?_ _)); exact BK110.out) Try.underlying48 rfl (by kernel_rfl) rfl (by (with_reducible repeat (first | refine blk_drewN ?_ _ | refine blk_drew ?_ | refine blk_alloc ?_ _)); refine blk_put (cs := #[.int .i64 0, .bool false, .int .i64 a0_0, .int .i64 0]) ?_ 3 _ rfl; (with_reducible repeat (first | refine blk_drewN ?_ _ | refine blk_drew ?_ | refine blk_alloc ?_ _)); refine blk_put (cs := #[.int .i64 0, .bool false, .int .i64 0, .int .i64 0]) ?_ 2 _ rfl; (with_reducible repeat (first | refine blk_drewN ?_ _ | refine blk_drew ?_ | refine blk_alloc ?_ _)); refine blk_put (cs := #[.int .i64 0, .bool false, .int .i64 0, .int .i64 0]) ?_ 1 _ rfl; (with_reducible repeat (first | refine blk_drewN ?_ _ | refine blk_drew ?_ | refine blk_alloc ?_ _)); refine blk_put (cs := #[.int .i64 0, .bool false, .int .i64 0, .int .i64 0]) ?_ 0 _ rfl; (with_reducible repeat (first | refine blk_drewN ?_ _ | refine blk_drew ?_ | refine blk_alloc ?_ _)); refine blk_far ?_ NB111_110.out _; (with_reducible repeat (first | refine blk_drewN ?_ _ | refine blk_drew ?_ | refine blk_alloc ?_ _)); refine blk_far ?_ NB111_110.out _; (with_reducible repeat (first | refine blk_drewN ?_ _ | refine blk_drew ?_ | refine blk_alloc ?_ _)); refine blk_far ?_ NB111_110.out _; (with_reducible repeat (first | refine blk_drewN ?_ _ | refine blk_drew ?_ | refine blk_alloc ?_ _)); refine blk_far ?_ NB111_110.out _; (with_reducible repeat (first | refine blk_drewN ?_ _ | refine blk_drew ?_ | refine blk_alloc ?_ _)); exact BK111.out) Try.underlying36 rfl (by kernel_rfl)) rfl ?_
        exact ⟨by first | rfl | (simp [errW_none, errW_some] <;> rfl) | (simp [*, errW_none, errW_some] <;> rfl), by repeat (first | (with_reducible first | exact HB.out | apply below_alloc | apply pw_below_drewN | apply below_drew1 | refine below_set ?_ GE108.out | refine below_set ?_ GE109.out | refine below_set ?_ GE110.out | refine below_set ?_ GE111.out | refine below_set ?_ GE112.out) | exact HB.out)⟩
      · replace c42 := Bool.eq_false_iff.mpr c42
        subst c42
        have H1 : (if (a3_1 == a0_0 && (a3_0 == a0_1)) = true then (some (a3_1, a3_0, wrap64 (a1 + a2), mx a0_3 a3_2, 0, true, a3_1, a3_2)) else (if a1 < a0_2 then (some (a0_0, a0_1, a0_2, a0_3, 0, false, a0_0, a3_2)) else (if a3_1 ≤ a0_0 then (some (a0_0, a0_1, a0_2, a0_3, 0, false, a0_0, a3_2)) else (some (a3_1, a3_0, wrap64 (a1 + a2), a3_2, 0, true, a3_1, a3_2))))) = some (r1, r2, r3, r4, r5, r6, r7, r8) := by rw [if_neg (show ¬ (false = true) by decide)] at H; exact H
        clear H
        have H := H1
        clear H1
        by_cases c52 : (a3_1 == a0_0 && (a3_0 == a0_1)) = true
        · rw [if_pos c52] at H
          have c52b0 : (a3_1 == a0_0 && (a3_0 == a0_1)) = true := c52
          (try (have c52b1 : decide (a3_1 = a0_0 && (a3_0 == a0_1)) = true := by simpa using c52))
          (try (have c52b2 : (a3_1 == a0_0 && (a3_0 == a0_1)) = true := by simpa using c52))
          clear c52
          obtain ⟨ji53, hji53⟩ : ∃ j_ : Int, (mx a0_3 a3_2) = j_ := ⟨_, rfl⟩
          replace H : (some (a3_1, a3_0, wrap64 (a1 + a2), ji53, 0, true, a3_1, a3_2)) = some (r1, r2, r3, r4, r5, r6, r7, r8) := by first | (rw [hji53] at H; exact H) | (simp only [hji53] at H ⊢; exact H)
          have hji53_ : (if a0_3 < a3_2 then a3_2 else a0_3) = ji53 := hji53
          simp only [Option.some.injEq, Prod.mk.injEq] at H
          obtain ⟨rfl, rfl, rfl, rfl, rfl, rfl, rfl, rfl⟩ := H
          have hnb54 := NB109_108.out
          have hnc54 := NB108_109.out
          have hnb55 := NB109_110.out
          have hnc55 := NB110_109.out
          have hnb56 := NB109_111.out
          have hnc56 := NB111_109.out
          have hnb57 := NB109_112.out
          have hnc57 := NB112_109.out
          have hcz58_0 : wc.cell? ⟨gb109, 0, none⟩ = some (.int .i64 a3_0) := (blk_cell BK109.out 0).trans rfl
          have hcz58_1 : wc.cell? ⟨gb109, 1, none⟩ = some (.int .i64 a3_1) := (blk_cell BK109.out 1).trans rfl
          have hcz58_2 : wc.cell? ⟨gb109, 2, none⟩ = some (.int .i64 a3_2) := (blk_cell BK109.out 2).trans rfl
          have hfz58_0 := blk_frozen BK109.out 0
          have hfz58_1 := blk_frozen BK109.out 1
          have hfz58_2 := blk_frozen BK109.out 2
          have hnb59 := NB108_110.out
          have hnc59 := NB110_108.out
          have hnb60 := NB108_111.out
          have hnc60 := NB111_108.out
          have hnb61 := NB108_112.out
          have hnc61 := NB112_108.out
          have hcz62_0 : wc.cell? ⟨gb108, 0, none⟩ = some (.int .i64 a0_0) := (blk_cell BK108.out 0).trans rfl
          have hcz62_1 : wc.cell? ⟨gb108, 1, none⟩ = some (.int .i64 a0_1) := (blk_cell BK108.out 1).trans rfl
          have hcz62_2 : wc.cell? ⟨gb108, 2, none⟩ = some (.int .i64 a0_2) := (blk_cell BK108.out 2).trans rfl
          have hcz62_3 : wc.cell? ⟨gb108, 3, none⟩ = some (.int .i64 a0_3) := (blk_cell BK108.out 3).trans rfl
          have hfz62_0 := blk_frozen BK108.out 0
          have hfz62_1 := blk_frozen BK108.out 1
          have hfz62_2 := blk_frozen BK108.out 2
          have hfz62_3 := blk_frozen BK108.out 3
          try go_wp2_with (first | ((with_reducible refine gate_dst (N := 11) rfl ?_); refine box_event ?hg (N := 11) ?hd (cs := #[.int .i64 0, .int .i64 0, .int .i64 0, .int .i64 0]) (t := 48) ?hr ?_; (case hd => rfl); (case hg => rfl); (case hr => first | (go_simp; done) | (go_simp; rfl)); intro gb114 hg w63 hbox hb; have n0_ := Aside0.mk (blk_below (g := gb108) (o := .cells #[.int .i64 a0_0, .int .i64 a0_1, .int .i64 a0_2, .int .i64 a0_3] 48 (0, 0)) (by (with_reducible repeat (first | refine blk_drewN ?_ _ | refine blk_drew ?_ | refine blk_alloc ?_ _)); exact BK108.out) hb); have n1_ := Aside0.mk (blk_below (g := gb109) (o := .cells #[.int .i64 a3_0, .int .i64 a3_1, .int .i64 a3_2] 34 (0, 0)) (by (with_reducible repeat (first | refine blk_drewN ?_ _ | refine blk_drew ?_ | refine blk_alloc ?_ _)); exact BK109.out) hb); have n2_ := Aside0.mk (blk_below (g := gb110) (o := .cells #[.int .i64 0, .int .i64 0, .int .i64 0, .int .i64 0] 48 (0, 0)) (by (with_reducible repeat (first | refine blk_drewN ?_ _ | refine blk_drew ?_ | refine blk_alloc ?_ _)); exact BK110.out) hb); have n3_ := Aside0.mk (blk_below (g := gb111) (o := .cells #[.int .i64 0, .bool false, .int .i64 0, .int .i64 0] 36 (0, 0)) (by (with_reducible repeat (first | refine blk_drewN ?_ _ | refine blk_drew ?_ | refine blk_alloc ?_ _)); exact BK111.out) hb); have n4_ := Aside0.mk (blk_below (g := gb112) (o := .cells #[.int .i64 0, .bool false, .int .i64 a0_0, .int .i64 a3_2] 36 (0, 0)) (by (with_reducible repeat (first | refine blk_drewN ?_ _ | refine blk_drew ?_ | refine blk_alloc ?_ _)); exact BK112.out) hb); have n5_ := Aside0.mk (below_step (by repeat (first | (with_reducible first | exact HB.out | apply below_alloc | apply pw_below_drewN | apply below_drew1 | refine below_set ?_ GE108.out | refine below_set ?_ GE109.out | refine below_set ?_ GE110.out | refine below_set ?_ GE111.out | refine below_set ?_ GE112.out) | exact HB.out)) hb); have n6_ := Aside0.mk (hbox); have n7_ := Aside0.mk ((by rw [hg]; exact (below_size (by repeat (first | (with_reducible first | exact HB.out | apply below_alloc | apply pw_below_drewN | apply below_drew1 | refine below_set ?_ GE108.out | refine below_set ?_ GE109.out | refine below_set ?_ GE110.out | refine below_set ?_ GE111.out | refine below_set ?_ GE112.out) | exact HB.out))) : w.heap.size ≤ gb114)); have n8_ := Aside0.mk ((by rw [hg]; exact (below_size (by repeat (first | (with_reducible first | exact HB.out | apply below_alloc | apply pw_below_drewN | apply below_drew1 | refine below_set ?_ GE108.out | refine below_set ?_ GE109.out | refine below_set ?_ GE110.out | refine below_set ?_ GE111.out | refine below_set ?_ GE112.out) | exact HB.out))) : w.heap.size ≤ gb114)); have n9_ := Aside0.mk ((by rw [hg]; exact Nat.ne_of_lt (blk_lt (g := gb108) (o := .cells #[.int .i64 a0_0, .int .i64 a0_1, .int .i64 a0_2, .int .i64 a0_3] 48 (0, 0)) (by (with_reducible repeat (first | refine blk_drewN ?_ _ | refine blk_drew ?_ | refine blk_alloc ?_ _)); exact BK108.out)) : gb108 ≠ gb114)); have n10_ := Aside0.mk ((by rw [hg]; exact Nat.ne_of_gt (blk_lt (g := gb108) (o := .cells #[.int .i64 a0_0, .int .i64 a0_1, .int .i64 a0_2, .int .i64 a0_3] 48 (0, 0)) (by (with_reducible repeat (first | refine blk_drewN ?_ _ | refine blk_drew ?_ | refine blk_alloc ?_ _)); exact BK108.out)) : gb114 ≠ gb108)); have n11_ := Aside0.mk ((by rw [hg]; exact Nat.ne_of_lt (blk_lt (g := gb109) (o := .cells #[.int .i64 a3_0, .int .i64 a3_1, .int .i64 a3_2] 34 (0, 0)) (by (with_reducible repeat (first | refine blk_drewN ?_ _ | refine blk_drew ?_ | refine blk_alloc ?_ _)); exact BK109.out)) : gb109 ≠ gb114)); have n12_ := Aside0.mk ((by rw [hg]; exact Nat.ne_of_gt (blk_lt (g := gb109) (o := .cells #[.int .i64 a3_0, .int .i64 a3_1, .int .i64 a3_2] 34 (0, 0)) (by (with_reducible repeat (first | refine blk_drewN ?_ _ | refine blk_drew ?_ | refine blk_alloc ?_ _)); exact BK109.out)) : gb114 ≠ gb109)); have n13_ := Aside0.mk ((by rw [hg]; exact Nat.ne_of_lt (blk_lt (g := gb110) (o := .cells #[.int .i64 0, .int .i64 0, .int .i64 0, .int .i64 0] 48 (0, 0)) (by (with_reducible repeat (first | refine blk_drewN ?_ _ | refine blk_drew ?_ | refine blk_alloc ?_ _)); exact BK110.out)) : gb110 ≠ gb114)); have n14_ := Aside0.mk ((by rw [hg]; exact Nat.ne_of_gt (blk_lt (g := gb110) (o := .cells #[.int .i64 0, .int .i64 0, .int .i64 0, .int .i64 0] 48 (0, 0)) (by (with_reducible repeat (first | refine blk_drewN ?_ _ | refine blk_drew ?_ | refine blk_alloc ?_ _)); exact BK110.out)) : gb114 ≠ gb110)); have n15_ := Aside0.mk ((by rw [hg]; exact Nat.ne_of_lt (blk_lt (g := gb111) (o := .cells #[.int .i64 0, .bool false, .int .i64 0, .int .i64 0] 36 (0, 0)) (by (with_reducible repeat (first | refine blk_drewN ?_ _ | refine blk_drew ?_ | refine blk_alloc ?_ _)); exact BK111.out)) : gb111 ≠ gb114)); have n16_ := Aside0.mk ((by rw [hg]; exact Nat.ne_of_gt (blk_lt (g := gb111) (o := .cells #[.int .i64 0, .bool false, .int .i64 0, .int .i64 0] 36 (0, 0)) (by (with_reducible repeat (first | refine blk_drewN ?_ _ | refine blk_drew ?_ | refine blk_alloc ?_ _)); exact BK111.out)) : gb114 ≠ gb111)); have n17_ := Aside0.mk ((by rw [hg]; exact Nat.ne_of_lt (blk_lt (g := gb112) (o := .cells #[.int .i64 0, .bool false, .int .i64 a0_0, .int .i64 a3_2] 36 (0, 0)) (by (with_reducible repeat (first | refine blk_drewN ?_ _ | refine blk_drew ?_ | refine blk_alloc ?_ _)); exact BK112.out)) : gb112 ≠ gb114)); have n18_ := Aside0.mk ((by rw [hg]; exact Nat.ne_of_gt (blk_lt (g := gb112) (o := .cells #[.int .i64 0, .bool false, .int .i64 a0_0, .int .i64 a3_2] 36 (0, 0)) (by (with_reducible repeat (first | refine blk_drewN ?_ _ | refine blk_drew ?_ | refine blk_alloc ?_ _)); exact BK112.out)) : gb114 ≠ gb112)); clear BK108; clear BK109; clear BK110; clear BK111; clear BK112; clear HB; have BK108 := n0_; have BK109 := n1_; have BK110 := n2_; have BK111 := n3_; have BK112 := n4_; have HB := n5_; have BK114 := n6_; have GW114 := n7_; have GE114 := n8_; have NB108_114 := n9_; have NB114_108 := n10_; have NB109_114 := n11_; have NB114_109 := n12_; have NB110_114 := n13_; have NB114_110 := n14_; have NB111_114 := n15_; have NB114_111 := n16_; have NB112_114 := n17_; have NB114_112 := n18_; clear n0_ n1_ n2_ n3_ n4_ n5_ n6_ n7_ n8_ n9_ n10_ n11_ n12_ n13_ n14_ n15_ n16_ n17_ n18_; clear hb hbox hg; have hnb64 := NB114_108.out; have hnc64 := NB108_114.out; have hnb65 := NB114_109.out; have hnc65 := NB109_114.out; have hnb66 := NB114_110.out; have hnc66 := NB110_114.out; have hnb67 := NB114_111.out; have hnc67 := NB111_114.out; have hnb68 := NB114_112.out; have hnc68 := NB112_114.out; have hcz69_0 : w63.cell? ⟨gb114, 0, none⟩ = some (.int .i64 0) := (blk_cell BK114.out 0).trans rfl; have hcz69_1 : w63.cell? ⟨gb114, 1, none⟩ = some (.int .i64 0) := (blk_cell BK114.out 1).trans rfl; have hcz69_2 : w63.cell? ⟨gb114, 2, none⟩ = some (.int .i64 0) := (blk_cell BK114.out 2).trans rfl; have hcz69_3 : w63.cell? ⟨gb114, 3, none⟩ = some (.int .i64 0) := (blk_cell BK114.out 3).trans rfl; have hfz69_0 := blk_frozen BK114.out 0; have hfz69_1 := blk_frozen BK114.out 1; have hfz69_2 := blk_frozen BK114.out 2; have hfz69_3 := blk_frozen BK114.out 3; have hcz70_0 : w63.cell? ⟨gb108, 0, none⟩ = some (.int .i64 a0_0) := (blk_cell BK108.out 0).trans rfl; have hcz70_1 : w63.cell? ⟨gb108, 1, none⟩ = some (.int .i64 a0_1) := (blk_cell BK108.out 1).trans rfl; have hcz70_2 : w63.cell? ⟨gb108, 2, none⟩ = some (.int .i64 a0_2) := (blk_cell BK108.out 2).trans rfl; have hcz70_3 : w63.cell? ⟨gb108, 3, none⟩ = some (.int .i64 a0_3) := (blk_cell BK108.out 3).trans rfl; have hfz70_0 := blk_frozen BK108.out 0; have hfz70_1 := blk_frozen BK108.out 1; have hfz70_2 := blk_frozen BK108.out 2; have hfz70_3 := blk_frozen BK108.out 3; have hcz71_0 : w63.cell? ⟨gb109, 0, none⟩ = some (.int .i64 a3_0) := (blk_cell BK109.out 0).trans rfl; have hcz71_1 : w63.cell? ⟨gb109, 1, none⟩ = some (.int .i64 a3_1) := (blk_cell BK109.out 1).trans rfl; have hcz71_2 : w63.cell? ⟨gb109, 2, none⟩ = some (.int .i64 a3_2) := (blk_cell BK109.out 2).trans rfl; have hfz71_0 := blk_frozen BK109.out 0; have hfz71_1 := blk_frozen BK109.out 1; have hfz71_2 := blk_frozen BK109.out 2))
          have n0_ : Aside0 (((((((w63.setCell ⟨gb114, 0, none⟩ (.int .i64 a3_1)).setCell ⟨gb114, 1, none⟩ (.int .i64 a3_0)).setCell ⟨gb114, 2, none⟩ (.int .i64 a0_2)).setCell ⟨gb114, 3, none⟩ (.int .i64 a0_3)).setCell ⟨gb114, 3, none⟩ (.int .i64 ji53)).setCell ⟨gb114, 2, none⟩ (.int .i64 (wrap64 (a1 + a2)))).heap[gb108]? = some (.cells #[.int .i64 a0_0, .int .i64 a0_1, .int .i64 a0_2, .int .i64 a0_3] 48 (0, 0))) := ⟨by (with_reducible repeat (first | refine blk_drewN ?_ _ | refine blk_drew ?_ | refine blk_alloc ?_ _)); refine blk_far ?_ NB108_114.out _; (with_reducible repeat (first | refine blk_drewN ?_ _ | refine blk_drew ?_ | refine blk_alloc ?_ _)); refine blk_far ?_ NB108_114.out _; (with_reducible repeat (first | refine blk_drewN ?_ _ | refine blk_drew ?_ | refine blk_alloc ?_ _)); refine blk_far ?_ NB108_114.out _; (with_reducible repeat (first | refine blk_drewN ?_ _ | refine blk_drew ?_ | refine blk_alloc ?_ _)); refine blk_far ?_ NB108_114.out _; (with_reducible repeat (first | refine blk_drewN ?_ _ | refine blk_drew ?_ | refine blk_alloc ?_ _)); refine blk_far ?_ NB108_114.out _; (with_reducible repeat (first | refine blk_drewN ?_ _ | refine blk_drew ?_ | refine blk_alloc ?_ _)); refine blk_far ?_ NB108_114.out _; (with_reducible repeat (first | refine blk_drewN ?_ _ | refine blk_drew ?_ | refine blk_alloc ?_ _)); exact BK108.out⟩
          have n1_ : Aside0 (((((((w63.setCell ⟨gb114, 0, none⟩ (.int .i64 a3_1)).setCell ⟨gb114, 1, none⟩ (.int .i64 a3_0)).setCell ⟨gb114, 2, none⟩ (.int .i64 a0_2)).setCell ⟨gb114, 3, none⟩ (.int .i64 a0_3)).setCell ⟨gb114, 3, none⟩ (.int .i64 ji53)).setCell ⟨gb114, 2, none⟩ (.int .i64 (wrap64 (a1 + a2)))).heap[gb109]? = some (.cells #[.int .i64 a3_0, .int .i64 a3_1, .int .i64 a3_2] 34 (0, 0))) := ⟨by (with_reducible repeat (first | refine blk_drewN ?_ _ | refine blk_drew ?_ | refine blk_alloc ?_ _)); refine blk_far ?_ NB109_114.out _; (with_reducible repeat (first | refine blk_drewN ?_ _ | refine blk_drew ?_ | refine blk_alloc ?_ _)); refine blk_far ?_ NB109_114.out _; (with_reducible repeat (first | refine blk_drewN ?_ _ | refine blk_drew ?_ | refine blk_alloc ?_ _)); refine blk_far ?_ NB109_114.out _; (with_reducible repeat (first | refine blk_drewN ?_ _ | refine blk_drew ?_ | refine blk_alloc ?_ _)); refine blk_far ?_ NB109_114.out _; (with_reducible repeat (first | refine blk_drewN ?_ _ | refine blk_drew ?_ | refine blk_alloc ?_ _)); refine blk_far ?_ NB109_114.out _; (with_reducible repeat (first | refine blk_drewN ?_ _ | refine blk_drew ?_ | refine blk_alloc ?_ _)); refine blk_far ?_ NB109_114.out _; (with_reducible repeat (first | refine blk_drewN ?_ _ | refine blk_drew ?_ | refine blk_alloc ?_ _)); exact BK109.out⟩
          have n2_ : Aside0 (((((((w63.setCell ⟨gb114, 0, none⟩ (.int .i64 a3_1)).setCell ⟨gb114, 1, none⟩ (.int .i64 a3_0)).setCell ⟨gb114, 2, none⟩ (.int .i64 a0_2)).setCell ⟨gb114, 3, none⟩ (.int .i64 a0_3)).setCell ⟨gb114, 3, none⟩ (.int .i64 ji53)).setCell ⟨gb114, 2, none⟩ (.int .i64 (wrap64 (a1 + a2)))).heap[gb110]? = some (.cells #[.int .i64 0, .int .i64 0, .int .i64 0, .int .i64 0] 48 (0, 0))) := ⟨by (with_reducible repeat (first | refine blk_drewN ?_ _ | refine blk_drew ?_ | refine blk_alloc ?_ _)); refine blk_far ?_ NB110_114.out _; (with_reducible repeat (first | refine blk_drewN ?_ _ | refine blk_drew ?_ | refine blk_alloc ?_ _)); refine blk_far ?_ NB110_114.out _; (with_reducible repeat (first | refine blk_drewN ?_ _ | refine blk_drew ?_ | refine blk_alloc ?_ _)); refine blk_far ?_ NB110_114.out _; (with_reducible repeat (first | refine blk_drewN ?_ _ | refine blk_drew ?_ | refine blk_alloc ?_ _)); refine blk_far ?_ NB110_114.out _; (with_reducible repeat (first | refine blk_drewN ?_ _ | refine blk_drew ?_ | refine blk_alloc ?_ _)); refine blk_far ?_ NB110_114.out _; (with_reducible repeat (first | refine blk_drewN ?_ _ | refine blk_drew ?_ | refine blk_alloc ?_ _)); refine blk_far ?_ NB110_114.out _; (with_reducible repeat (first | refine blk_drewN ?_ _ | refine blk_drew ?_ | refine blk_alloc ?_ _)); exact BK110.out⟩
          have n3_ : Aside0 (((((((w63.setCell ⟨gb114, 0, none⟩ (.int .i64 a3_1)).setCell ⟨gb114, 1, none⟩ (.int .i64 a3_0)).setCell ⟨gb114, 2, none⟩ (.int .i64 a0_2)).setCell ⟨gb114, 3, none⟩ (.int .i64 a0_3)).setCell ⟨gb114, 3, none⟩ (.int .i64 ji53)).setCell ⟨gb114, 2, none⟩ (.int .i64 (wrap64 (a1 + a2)))).heap[gb111]? = some (.cells #[.int .i64 0, .bool false, .int .i64 0, .int .i64 0] 36 (0, 0))) := ⟨by (with_reducible repeat (first | refine blk_drewN ?_ _ | refine blk_drew ?_ | refine blk_alloc ?_ _)); refine blk_far ?_ NB111_114.out _; (with_reducible repeat (first | refine blk_drewN ?_ _ | refine blk_drew ?_ | refine blk_alloc ?_ _)); refine blk_far ?_ NB111_114.out _; (with_reducible repeat (first | refine blk_drewN ?_ _ | refine blk_drew ?_ | refine blk_alloc ?_ _)); refine blk_far ?_ NB111_114.out _; (with_reducible repeat (first | refine blk_drewN ?_ _ | refine blk_drew ?_ | refine blk_alloc ?_ _)); refine blk_far ?_ NB111_114.out _; (with_reducible repeat (first | refine blk_drewN ?_ _ | refine blk_drew ?_ | refine blk_alloc ?_ _)); refine blk_far ?_ NB111_114.out _; (with_reducible repeat (first | refine blk_drewN ?_ _ | refine blk_drew ?_ | refine blk_alloc ?_ _)); refine blk_far ?_ NB111_114.out _; (with_reducible repeat (first | refine blk_drewN ?_ _ | refine blk_drew ?_ | refine blk_alloc ?_ _)); exact BK111.out⟩
          have n4_ : Aside0 (((((((w63.setCell ⟨gb114, 0, none⟩ (.int .i64 a3_1)).setCell ⟨gb114, 1, none⟩ (.int .i64 a3_0)).setCell ⟨gb114, 2, none⟩ (.int .i64 a0_2)).setCell ⟨gb114, 3, none⟩ (.int .i64 a0_3)).setCell ⟨gb114, 3, none⟩ (.int .i64 ji53)).setCell ⟨gb114, 2, none⟩ (.int .i64 (wrap64 (a1 + a2)))).heap[gb112]? = some (.cells #[.int .i64 0, .bool false, .int .i64 a0_0, .int .i64 a3_2] 36 (0, 0))) := ⟨by (with_reducible repeat (first | refine blk_drewN ?_ _ | refine blk_drew ?_ | refine blk_alloc ?_ _)); refine blk_far ?_ NB112_114.out _; (with_reducible repeat (first | refine blk_drewN ?_ _ | refine blk_drew ?_ | refine blk_alloc ?_ _)); refine blk_far ?_ NB112_114.out _; (with_reducible repeat (first | refine blk_drewN ?_ _ | refine blk_drew ?_ | refine blk_alloc ?_ _)); refine blk_far ?_ NB112_114.out _; (with_reducible repeat (first | refine blk_drewN ?_ _ | refine blk_drew ?_ | refine blk_alloc ?_ _)); refine blk_far ?_ NB112_114.out _; (with_reducible repeat (first | refine blk_drewN ?_ _ | refine blk_drew ?_ | refine blk_alloc ?_ _)); refine blk_far ?_ NB112_114.out _; (with_reducible repeat (first | refine blk_drewN ?_ _ | refine blk_drew ?_ | refine blk_alloc ?_ _)); refine blk_far ?_ NB112_114.out _; (with_reducible repeat (first | refine blk_drewN ?_ _ | refine blk_drew ?_ | refine blk_alloc ?_ _)); exact BK112.out⟩
          have n5_ : Aside0 (((((((w63.setCell ⟨gb114, 0, none⟩ (.int .i64 a3_1)).setCell ⟨gb114, 1, none⟩ (.int .i64 a3_0)).setCell ⟨gb114, 2, none⟩ (.int .i64 a0_2)).setCell ⟨gb114, 3, none⟩ (.int .i64 a0_3)).setCell ⟨gb114, 3, none⟩ (.int .i64 ji53)).setCell ⟨gb114, 2, none⟩ (.int .i64 (wrap64 (a1 + a2)))).heap[gb114]? = some (.cells #[.int .i64 a3_1, .int .i64 a3_0, .int .i64 (wrap64 (a1 + a2)), .int .i64 ji53] 48 (0, 0))) := ⟨by (with_reducible repeat (first | refine blk_drewN ?_ _ | refine blk_drew ?_ | refine blk_alloc ?_ _)); refine blk_put (cs := #[.int .i64 a3_1, .int .i64 a3_0, .int .i64 a0_2, .int .i64 ji53]) ?_ 2 _ rfl; (with_reducible repeat (first | refine blk_drewN ?_ _ | refine blk_drew ?_ | refine blk_alloc ?_ _)); refine blk_put (cs := #[.int .i64 a3_1, .int .i64 a3_0, .int .i64 a0_2, .int .i64 a0_3]) ?_ 3 _ rfl; (with_reducible repeat (first | refine blk_drewN ?_ _ | refine blk_drew ?_ | refine blk_alloc ?_ _)); refine blk_put (cs := #[.int .i64 a3_1, .int .i64 a3_0, .int .i64 a0_2, .int .i64 0]) ?_ 3 _ rfl; (with_reducible repeat (first | refine blk_drewN ?_ _ | refine blk_drew ?_ | refine blk_alloc ?_ _)); refine blk_put (cs := #[.int .i64 a3_1, .int .i64 a3_0, .int .i64 0, .int .i64 0]) ?_ 2 _ rfl; (with_reducible repeat (first | refine blk_drewN ?_ _ | refine blk_drew ?_ | refine blk_alloc ?_ _)); refine blk_put (cs := #[.int .i64 a3_1, .int .i64 0, .int .i64 0, .int .i64 0]) ?_ 1 _ rfl; (with_reducible repeat (first | refine blk_drewN ?_ _ | refine blk_drew ?_ | refine blk_alloc ?_ _)); refine blk_put (cs := #[.int .i64 0, .int .i64 0, .int .i64 0, .int .i64 0]) ?_ 0 _ rfl; (with_reducible repeat (first | refine blk_drewN ?_ _ | refine blk_drew ?_ | refine blk_alloc ?_ _)); exact BK114.out⟩
          have n6_ : Aside0 (Below w.heap.size w ((((((w63.setCell ⟨gb114, 0, none⟩ (.int .i64 a3_1)).setCell ⟨gb114, 1, none⟩ (.int .i64 a3_0)).setCell ⟨gb114, 2, none⟩ (.int .i64 a0_2)).setCell ⟨gb114, 3, none⟩ (.int .i64 a0_3)).setCell ⟨gb114, 3, none⟩ (.int .i64 ji53)).setCell ⟨gb114, 2, none⟩ (.int .i64 (wrap64 (a1 + a2))))) := ⟨by repeat (first | (with_reducible first | exact HB.out | apply below_alloc | apply pw_below_drewN | apply below_drew1 | refine below_set ?_ GE108.out | refine below_set ?_ GE109.out | refine below_set ?_ GE110.out | refine below_set ?_ GE111.out | refine below_set ?_ GE112.out | refine below_set ?_ GE114.out) | exact HB.out)⟩
          (try clear BK108)
          (try clear BK109)
          (try clear BK110)
          (try clear BK111)
          (try clear BK112)
          (try clear BK114)
          (try clear HB)
          generalize ((((((w63.setCell ⟨gb114, 0, none⟩ (.int .i64 a3_1)).setCell ⟨gb114, 1, none⟩ (.int .i64 a3_0)).setCell ⟨gb114, 2, none⟩ (.int .i64 a0_2)).setCell ⟨gb114, 3, none⟩ (.int .i64 a0_3)).setCell ⟨gb114, 3, none⟩ (.int .i64 ji53)).setCell ⟨gb114, 2, none⟩ (.int .i64 (wrap64 (a1 + a2)))) = w72 at n0_ n1_ n2_ n3_ n4_ n5_ n6_ ⊢
          have BK108 := n0_
          have BK109 := n1_
          have BK110 := n2_
          have BK111 := n3_
          have BK112 := n4_
          have BK114 := n5_
          have HB := n6_
          clear n0_ n1_ n2_ n3_ n4_ n5_ n6_
          have n0_ := Aside0.mk (blk_drew BK108.out)
          have n1_ := Aside0.mk (blk_drew BK109.out)
          have n2_ := Aside0.mk (blk_drew BK110.out)
          have n3_ := Aside0.mk (blk_drew BK111.out)
          have n4_ := Aside0.mk (blk_drew BK112.out)
          have n5_ := Aside0.mk (blk_drew BK114.out)
          have n6_ := Aside0.mk (below_drew1 HB.out)
          clear BK108
          clear BK109
          clear BK110
          clear BK111
          clear BK112
          clear BK114
          clear HB
          have BK108 := n0_
          have BK109 := n1_
          have BK110 := n2_
          have BK111 := n3_
          have BK112 := n4_
          have BK114 := n5_
          have HB := n6_
          clear n0_ n1_ n2_ n3_ n4_ n5_ n6_
          refine start_ (n := 8) (S := fun w' => w'.cell? ⟨gb114, 0, none⟩ = some (.int .i64 a3_1) ∧ w'.cell? ⟨gb114, 1, none⟩ = some (.int .i64 a3_0) ∧ w'.cell? ⟨gb114, 2, none⟩ = some (.int .i64 (wrap64 (a1 + a2))) ∧ w'.cell? ⟨gb114, 3, none⟩ = some (.int .i64 ji53) ∧ w'.cell? ⟨gb109, 0, none⟩ = some (.int .i64 a3_0) ∧ w'.cell? ⟨gb109, 1, none⟩ = some (.int .i64 a3_1) ∧ w'.cell? ⟨gb109, 2, none⟩ = some (.int .i64 a3_2)) (ds := []) #[false, false, false, false, false, false, false, false] (by kernel_rfl) rfl rfl ⟨(blk_cell BK114.out 0).trans rfl, (blk_cell BK114.out 1).trans rfl, (blk_cell BK114.out 2).trans rfl, (blk_cell BK114.out 3).trans rfl, (blk_cell BK109.out 0).trans rfl, (blk_cell BK109.out 1).trans rfl, (blk_cell BK109.out 2).trans rfl⟩ (fun hHeld => ?_); refine with_tabW ballot_Hear.tab11 ballot_Hear.bits11 (fun HT_ HW_ => ?_)
          generalize w72.drew = w73 at BK108 BK109 BK110 BK111 BK112 BK114 HB hHeld ⊢
          refine pure_ (i := 1) (N := some 79) (v := ?_) (a' := ?_) #[false, true, false, false, false, false, false, false] rfl rfl (any_of HT_.out (by kernel_rfl)) (fun _ _ _ h => h) (Or.inl ⟨by rfl, ?_⟩) ?_ ?_
          rotate_left
          · intro w'
            go_simp
            with_reducible rfl
          rotate_left
          · simp only [Act.put, List.setIfInBounds_toArray, List.set_cons_zero, List.set_cons_succ, i64_w, i32_w]
            rfl
          refine pure_ (i := 3) (N := some 81) (v := ?_) (a' := ?_) #[false, true, false, true, false, false, false, false] rfl rfl (any_of HT_.out (by kernel_rfl)) (fun _ _ _ h => h) (Or.inl ⟨by rfl, ?_⟩) ?_ ?_
          rotate_left
          · intro w'
            go_simp
            with_reducible rfl
          rotate_left
          · simp only [Act.put, List.setIfInBounds_toArray, List.set_cons_zero, List.set_cons_succ, i64_w, i32_w]
            rfl
          refine take_ (i := 0) (N := some 78) (v := ?_) (a' := ?_) #[true, true, false, true, false, false, false, false] rfl rfl (take_ofW HT_.out HW_.out (by kernel_rfl)) (fun _ _ _ h => h) (Or.inl ⟨by rfl, ?_⟩) hHeld ?_ ?_
          rotate_left
          · rintro w' ⟨s0, s1, s2, s3, s4, s5, s6⟩
            go_simp
            with_reducible rfl
          rotate_left
          · simp only [Act.put, List.setIfInBounds_toArray, List.set_cons_zero, List.set_cons_succ, i64_w, i32_w]
            rfl
          refine take_ (i := 2) (N := some 80) (v := ?_) (a' := ?_) #[true, true, true, true, false, false, false, false] rfl rfl (take_ofW HT_.out HW_.out (by kernel_rfl)) (fun _ _ _ h => h) (Or.inl ⟨by rfl, ?_⟩) hHeld ?_ ?_
          rotate_left
          · rintro w' ⟨s0, s1, s2, s3, s4, s5, s6⟩
            go_simp
            with_reducible rfl
          rotate_left
          · simp only [Act.put, List.setIfInBounds_toArray, List.set_cons_zero, List.set_cons_succ, i64_w, i32_w]
            rfl
          refine take_ (i := 4) (N := some 82) (v := ?_) (a' := ?_) #[true, true, true, true, true, false, false, false] rfl rfl (take_ofW HT_.out HW_.out (by kernel_rfl)) (fun _ _ _ h => h) (Or.inl ⟨by rfl, ?_⟩) hHeld ?_ ?_
          rotate_left
          · rintro w' ⟨s0, s1, s2, s3, s4, s5, s6⟩
            go_simp
            with_reducible rfl
          rotate_left
          · simp only [Act.put, List.setIfInBounds_toArray, List.set_cons_zero, List.set_cons_succ, i64_w, i32_w]
            rfl
          refine pure_ (i := 5) (N := some 83) (v := ?_) (a' := ?_) #[true, true, true, true, true, true, false, false] rfl rfl (any_of HT_.out (by kernel_rfl)) (fun _ _ _ h => h) (Or.inl ⟨by rfl, ?_⟩) ?_ ?_
          rotate_left
          · intro w'
            go_simp
            with_reducible rfl
          rotate_left
          · simp only [Act.put, List.setIfInBounds_toArray, List.set_cons_zero, List.set_cons_succ, i64_w, i32_w]
            rfl
          refine one_ (i := 6) (N := none) #[true, true, true, true, true, true, true, false] rfl rfl (one_of HT_.out (by kernel_rfl)) (by decide) (fun K hK => ?_)
          have hs74 : w73.cell? ⟨gb110, 0, none⟩ = some (.int .i64 0) := (blk_cell BK110.out 0).trans rfl
          have hfs74 := blk_frozen BK110.out 0
          have hns74_0 := NB108_110.out
          have hns74_1 := NB109_110.out
          have hns74_3 := NB111_110.out
          have hns74_4 := NB112_110.out
          have hns74_5 := NB114_110.out
          have hms74_0 := NB110_108.out
          have hms74_1 := NB110_109.out
          have hms74_3 := NB110_111.out
          have hms74_4 := NB110_112.out
          have hms74_5 := NB110_114.out
          have hs75 : w73.cell? ⟨gb110, 1, none⟩ = some (.int .i64 0) := (blk_cell BK110.out 1).trans rfl
          have hfs75 := blk_frozen BK110.out 1
          have hns75_0 := NB108_110.out
          have hns75_1 := NB109_110.out
          have hns75_3 := NB111_110.out
          have hns75_4 := NB112_110.out
          have hns75_5 := NB114_110.out
          have hms75_0 := NB110_108.out
          have hms75_1 := NB110_109.out
          have hms75_3 := NB110_111.out
          have hms75_4 := NB110_112.out
          have hms75_5 := NB110_114.out
          have hs76 : w73.cell? ⟨gb110, 2, none⟩ = some (.int .i64 0) := (blk_cell BK110.out 2).trans rfl
          have hfs76 := blk_frozen BK110.out 2
          have hns76_0 := NB108_110.out
          have hns76_1 := NB109_110.out
          have hns76_3 := NB111_110.out
          have hns76_4 := NB112_110.out
          have hns76_5 := NB114_110.out
          have hms76_0 := NB110_108.out
          have hms76_1 := NB110_109.out
          have hms76_3 := NB110_111.out
          have hms76_4 := NB110_112.out
          have hms76_5 := NB110_114.out
          have hs77 : w73.cell? ⟨gb110, 3, none⟩ = some (.int .i64 0) := (blk_cell BK110.out 3).trans rfl
          have hfs77 := blk_frozen BK110.out 3
          have hns77_0 := NB108_110.out
          have hns77_1 := NB109_110.out
          have hns77_3 := NB111_110.out
          have hns77_4 := NB112_110.out
          have hns77_5 := NB114_110.out
          have hms77_0 := NB110_108.out
          have hms77_1 := NB110_109.out
          have hms77_3 := NB110_111.out
          have hms77_4 := NB110_112.out
          have hms77_5 := NB110_114.out
          refine skip_ (w1 := ?_) (by rfl) rfl ?_ ?_
          rotate_left
          · go_simp
            rfl
          refine hK.out _ _ ⟨((cell_far (p := ⟨gb110, _, none⟩) NB114_110.out _).trans (((cell_far (p := ⟨gb110, _, none⟩) NB114_110.out _).trans (((cell_far (p := ⟨gb110, _, none⟩) NB114_110.out _).trans (((cell_far (p := ⟨gb110, _, none⟩) NB114_110.out _).trans (hHeld.1)))))))), ((cell_far (p := ⟨gb110, _, none⟩) NB114_110.out _).trans (((cell_far (p := ⟨gb110, _, none⟩) NB114_110.out _).trans (((cell_far (p := ⟨gb110, _, none⟩) NB114_110.out _).trans (((cell_far (p := ⟨gb110, _, none⟩) NB114_110.out _).trans (hHeld.2.1)))))))), ((cell_far (p := ⟨gb110, _, none⟩) NB114_110.out _).trans (((cell_far (p := ⟨gb110, _, none⟩) NB114_110.out _).trans (((cell_far (p := ⟨gb110, _, none⟩) NB114_110.out _).trans (((cell_far (p := ⟨gb110, _, none⟩) NB114_110.out _).trans (hHeld.2.2.1)))))))), ((cell_far (p := ⟨gb110, _, none⟩) NB114_110.out _).trans (((cell_far (p := ⟨gb110, _, none⟩) NB114_110.out _).trans (((cell_far (p := ⟨gb110, _, none⟩) NB114_110.out _).trans (((cell_far (p := ⟨gb110, _, none⟩) NB114_110.out _).trans (hHeld.2.2.2.1)))))))), ((cell_far (p := ⟨gb110, _, none⟩) NB109_110.out _).trans (((cell_far (p := ⟨gb110, _, none⟩) NB109_110.out _).trans (((cell_far (p := ⟨gb110, _, none⟩) NB109_110.out _).trans (((cell_far (p := ⟨gb110, _, none⟩) NB109_110.out _).trans (hHeld.2.2.2.2.1)))))))), ((cell_far (p := ⟨gb110, _, none⟩) NB109_110.out _).trans (((cell_far (p := ⟨gb110, _, none⟩) NB109_110.out _).trans (((cell_far (p := ⟨gb110, _, none⟩) NB109_110.out _).trans (((cell_far (p := ⟨gb110, _, none⟩) NB109_110.out _).trans (hHeld.2.2.2.2.2.1)))))))), ((cell_far (p := ⟨gb110, _, none⟩) NB109_110.out _).trans (((cell_far (p := ⟨gb110, _, none⟩) NB109_110.out _).trans (((cell_far (p := ⟨gb110, _, none⟩) NB109_110.out _).trans (((cell_far (p := ⟨gb110, _, none⟩) NB109_110.out _).trans (hHeld.2.2.2.2.2.2))))))))⟩ (fun hHeld => ?_)
          clear hK K
          refine one_ (i := 7) (N := none) #[true, true, true, true, true, true, true, true] rfl rfl (one_of HT_.out (by kernel_rfl)) (by decide) (fun K hK => ?_)
          have hs78 : w73.cell? ⟨gb111, 0, none⟩ = some (.int .i64 0) := (blk_cell BK111.out 0).trans rfl
          have hfs78 := blk_frozen BK111.out 0
          have hns78_0 := NB108_111.out
          have hns78_1 := NB109_111.out
          have hns78_2 := NB110_111.out
          have hns78_4 := NB112_111.out
          have hns78_5 := NB114_111.out
          have hms78_0 := NB111_108.out
          have hms78_1 := NB111_109.out
          have hms78_2 := NB111_110.out
          have hms78_4 := NB111_112.out
          have hms78_5 := NB111_114.out
          have hs79 : w73.cell? ⟨gb111, 1, none⟩ = some (.bool false) := (blk_cell BK111.out 1).trans rfl
          have hfs79 := blk_frozen BK111.out 1
          have hns79_0 := NB108_111.out
          have hns79_1 := NB109_111.out
          have hns79_2 := NB110_111.out
          have hns79_4 := NB112_111.out
          have hns79_5 := NB114_111.out
          have hms79_0 := NB111_108.out
          have hms79_1 := NB111_109.out
          have hms79_2 := NB111_110.out
          have hms79_4 := NB111_112.out
          have hms79_5 := NB111_114.out
          have hs80 : w73.cell? ⟨gb111, 2, none⟩ = some (.int .i64 0) := (blk_cell BK111.out 2).trans rfl
          have hfs80 := blk_frozen BK111.out 2
          have hns80_0 := NB108_111.out
          have hns80_1 := NB109_111.out
          have hns80_2 := NB110_111.out
          have hns80_4 := NB112_111.out
          have hns80_5 := NB114_111.out
          have hms80_0 := NB111_108.out
          have hms80_1 := NB111_109.out
          have hms80_2 := NB111_110.out
          have hms80_4 := NB111_112.out
          have hms80_5 := NB111_114.out
          have hs81 : w73.cell? ⟨gb111, 3, none⟩ = some (.int .i64 0) := (blk_cell BK111.out 3).trans rfl
          have hfs81 := blk_frozen BK111.out 3
          have hns81_0 := NB108_111.out
          have hns81_1 := NB109_111.out
          have hns81_2 := NB110_111.out
          have hns81_4 := NB112_111.out
          have hns81_5 := NB114_111.out
          have hms81_0 := NB111_108.out
          have hms81_1 := NB111_109.out
          have hms81_2 := NB111_110.out
          have hms81_4 := NB111_112.out
          have hms81_5 := NB111_114.out
          refine skip_ (w1 := ?_) (by rfl) rfl ?_ ?_
          rotate_left
          · go_simp
            rfl
          refine hK.out _ _ ⟨((cell_far (p := ⟨gb111, _, none⟩) NB114_111.out _).trans (((cell_far (p := ⟨gb111, _, none⟩) NB114_111.out _).trans (((cell_far (p := ⟨gb111, _, none⟩) NB114_111.out _).trans (((cell_far (p := ⟨gb111, _, none⟩) NB114_111.out _).trans (hHeld.1)))))))), ((cell_far (p := ⟨gb111, _, none⟩) NB114_111.out _).trans (((cell_far (p := ⟨gb111, _, none⟩) NB114_111.out _).trans (((cell_far (p := ⟨gb111, _, none⟩) NB114_111.out _).trans (((cell_far (p := ⟨gb111, _, none⟩) NB114_111.out _).trans (hHeld.2.1)))))))), ((cell_far (p := ⟨gb111, _, none⟩) NB114_111.out _).trans (((cell_far (p := ⟨gb111, _, none⟩) NB114_111.out _).trans (((cell_far (p := ⟨gb111, _, none⟩) NB114_111.out _).trans (((cell_far (p := ⟨gb111, _, none⟩) NB114_111.out _).trans (hHeld.2.2.1)))))))), ((cell_far (p := ⟨gb111, _, none⟩) NB114_111.out _).trans (((cell_far (p := ⟨gb111, _, none⟩) NB114_111.out _).trans (((cell_far (p := ⟨gb111, _, none⟩) NB114_111.out _).trans (((cell_far (p := ⟨gb111, _, none⟩) NB114_111.out _).trans (hHeld.2.2.2.1)))))))), ((cell_far (p := ⟨gb111, _, none⟩) NB109_111.out _).trans (((cell_far (p := ⟨gb111, _, none⟩) NB109_111.out _).trans (((cell_far (p := ⟨gb111, _, none⟩) NB109_111.out _).trans (((cell_far (p := ⟨gb111, _, none⟩) NB109_111.out _).trans (hHeld.2.2.2.2.1)))))))), ((cell_far (p := ⟨gb111, _, none⟩) NB109_111.out _).trans (((cell_far (p := ⟨gb111, _, none⟩) NB109_111.out _).trans (((cell_far (p := ⟨gb111, _, none⟩) NB109_111.out _).trans (((cell_far (p := ⟨gb111, _, none⟩) NB109_111.out _).trans (hHeld.2.2.2.2.2.1)))))))), ((cell_far (p := ⟨gb111, _, none⟩) NB109_111.out _).trans (((cell_far (p := ⟨gb111, _, none⟩) NB109_111.out _).trans (((cell_far (p := ⟨gb111, _, none⟩) NB109_111.out _).trans (((cell_far (p := ⟨gb111, _, none⟩) NB109_111.out _).trans (hHeld.2.2.2.2.2.2))))))))⟩ (fun hHeld => ?_)
          clear hK K
          refine done_ (done_of HT_.out (by kernel_rfl)) ?_
          try go_wp2
          refine bodyPost_ret (results_cc rfl _ _ gb110 gb111 48 36 #[.int .i64 a3_1, .int .i64 a3_0, .int .i64 (wrap64 (a1 + a2)), .int .i64 ji53] #[.int .i64 0, .bool true, .int .i64 a3_1, .int .i64 a3_2] (0, 0) (0, 0) _ _ rfl (by (with_reducible repeat (first | refine blk_drewN ?_ _ | refine blk_drew ?_ | refine blk_alloc ?_ _)); refine blk_far ?_ NB110_111.out _; (with_reducible repeat (first | refine blk_drewN ?_ _ | refine blk_drew ?_ | refine blk_alloc ?_ _)); refine blk_far ?_ NB110_111.out _; (with_reducible repeat (first | refine blk_drewN ?_ _ | refine blk_drew ?_ | refine blk_alloc ?_ _)); refine blk_far ?_ NB110_111.out _; (with_reducible repeat (first | refine blk_drewN ?_ _ | refine blk_drew ?_ | refine blk_alloc ?_ _)); refine blk_far ?_ NB110_111.out _; (with_reducible repeat (first | refine blk_drewN ?_ _ | refine blk_drew ?_ | refine blk_alloc ?_ _)); refine blk_put (cs := #[.int .i64 a3_1, .int .i64 a3_0, .int .i64 (wrap64 (a1 + a2)), .int .i64 0]) ?_ 3 _ rfl; (with_reducible repeat (first | refine blk_drewN ?_ _ | refine blk_drew ?_ | refine blk_alloc ?_ _)); refine blk_put (cs := #[.int .i64 a3_1, .int .i64 a3_0, .int .i64 0, .int .i64 0]) ?_ 2 _ rfl; (with_reducible repeat (first | refine blk_drewN ?_ _ | refine blk_drew ?_ | refine blk_alloc ?_ _)); refine blk_put (cs := #[.int .i64 a3_1, .int .i64 0, .int .i64 0, .int .i64 0]) ?_ 1 _ rfl; (with_reducible repeat (first | refine blk_drewN ?_ _ | refine blk_drew ?_ | refine blk_alloc ?_ _)); refine blk_put (cs := #[.int .i64 0, .int .i64 0, .int .i64 0, .int .i64 0]) ?_ 0 _ rfl; (with_reducible repeat (first | refine blk_drewN ?_ _ | refine blk_drew ?_ | refine blk_alloc ?_ _)); exact BK110.out) Try.underlying48 rfl (by kernel_rfl) rfl (by (with_reducible repeat (first | refine blk_drewN ?_ _ | refine blk_drew ?_ | refine blk_alloc ?_ _)); refine blk_put (cs := #[.int .i64 0, .bool true, .int .i64 a3_1, .int .i64 0]) ?_ 3 _ rfl; (with_reducible repeat (first | refine blk_drewN ?_ _ | refine blk_drew ?_ | refine blk_alloc ?_ _)); refine blk_put (cs := #[.int .i64 0, .bool true, .int .i64 0, .int .i64 0]) ?_ 2 _ rfl; (with_reducible repeat (first | refine blk_drewN ?_ _ | refine blk_drew ?_ | refine blk_alloc ?_ _)); refine blk_put (cs := #[.int .i64 0, .bool false, .int .i64 0, .int .i64 0]) ?_ 1 _ rfl; (with_reducible repeat (first | refine blk_drewN ?_ _ | refine blk_drew ?_ | refine blk_alloc ?_ _)); refine blk_put (cs := #[.int .i64 0, .bool false, .int .i64 0, .int .i64 0]) ?_ 0 _ rfl; (with_reducible repeat (first | refine blk_drewN ?_ _ | refine blk_drew ?_ | refine blk_alloc ?_ _)); refine blk_far ?_ NB111_110.out _; (with_reducible repeat (first | refine blk_drewN ?_ _ | refine blk_drew ?_ | refine blk_alloc ?_ _)); refine blk_far ?_ NB111_110.out _; (with_reducible repeat (first | refine blk_drewN ?_ _ | refine blk_drew ?_ | refine blk_alloc ?_ _)); refine blk_far ?_ NB111_110.out _; (with_reducible repeat (first | refine blk_drewN ?_ _ | refine blk_drew ?_ | refine blk_alloc ?_ _)); refine blk_far ?_ NB111_110.out _; (with_reducible repeat (first | refine blk_drewN ?_ _ | refine blk_drew ?_ | refine blk_alloc ?_ _)); exact BK111.out) Try.underlying36 rfl (by kernel_rfl)) rfl ?_
          exact ⟨by first | rfl | (simp [errW_none, errW_some] <;> rfl) | (simp only [← hji53]; first | rfl | (simp [errW_none, errW_some] <;> rfl)) | (simp [*, errW_none, errW_some] <;> rfl), by repeat (first | (with_reducible first | exact HB.out | apply below_alloc | apply pw_below_drewN | apply below_drew1 | refine below_set ?_ GE108.out | refine below_set ?_ GE109.out | refine below_set ?_ GE110.out | refine below_set ?_ GE111.out | refine below_set ?_ GE112.out | refine below_set ?_ GE114.out) | exact HB.out)⟩
        · rw [if_neg c52] at H
          have c52b0 : (a3_1 == a0_0 && (a3_0 == a0_1)) = false := by simpa using c52
          (try (have c52b1 : decide (a3_1 = a0_0 && (a3_0 == a0_1)) = false := by simpa using c52))
          (try (have c52b2 : (a3_1 == a0_0 && (a3_0 == a0_1)) = false := by simpa using c52))
          (try (have c52b3 : ¬ (a3_1 = a0_0 && (a3_0 == a0_1)) := by simpa using c52))
          clear c52
          by_cases c82 : a1 < a0_2
          · rw [if_pos c82] at H
            have c82b0 : decide (a1 < a0_2) = true := decide_eq_true c82
            clear c82
            simp only [Option.some.injEq, Prod.mk.injEq] at H
            obtain ⟨rfl, rfl, rfl, rfl, rfl, rfl, rfl, rfl⟩ := H
            have hnb83 := NB109_108.out
            have hnc83 := NB108_109.out
            have hnb84 := NB109_110.out
            have hnc84 := NB110_109.out
            have hnb85 := NB109_111.out
            have hnc85 := NB111_109.out
            have hnb86 := NB109_112.out
            have hnc86 := NB112_109.out
            have hcz87_0 : wc.cell? ⟨gb109, 0, none⟩ = some (.int .i64 a3_0) := (blk_cell BK109.out 0).trans rfl
            have hcz87_1 : wc.cell? ⟨gb109, 1, none⟩ = some (.int .i64 a3_1) := (blk_cell BK109.out 1).trans rfl
            have hcz87_2 : wc.cell? ⟨gb109, 2, none⟩ = some (.int .i64 a3_2) := (blk_cell BK109.out 2).trans rfl
            have hfz87_0 := blk_frozen BK109.out 0
            have hfz87_1 := blk_frozen BK109.out 1
            have hfz87_2 := blk_frozen BK109.out 2
            have hnb88 := NB108_110.out
            have hnc88 := NB110_108.out
            have hnb89 := NB108_111.out
            have hnc89 := NB111_108.out
            have hnb90 := NB108_112.out
            have hnc90 := NB112_108.out
            have hcz91_0 : wc.cell? ⟨gb108, 0, none⟩ = some (.int .i64 a0_0) := (blk_cell BK108.out 0).trans rfl
            have hcz91_1 : wc.cell? ⟨gb108, 1, none⟩ = some (.int .i64 a0_1) := (blk_cell BK108.out 1).trans rfl
            have hcz91_2 : wc.cell? ⟨gb108, 2, none⟩ = some (.int .i64 a0_2) := (blk_cell BK108.out 2).trans rfl
            have hcz91_3 : wc.cell? ⟨gb108, 3, none⟩ = some (.int .i64 a0_3) := (blk_cell BK108.out 3).trans rfl
            have hfz91_0 := blk_frozen BK108.out 0
            have hfz91_1 := blk_frozen BK108.out 1
            have hfz91_2 := blk_frozen BK108.out 2
            have hfz91_3 := blk_frozen BK108.out 3
            try go_wp2_with (first | ((with_reducible refine gate_dst (N := 11) rfl ?_); refine box_event ?hg (N := 11) ?hd (cs := #[.int .i64 0, .int .i64 0, .int .i64 0, .int .i64 0]) (t := 48) ?hr ?_; (case hd => rfl); (case hg => rfl); (case hr => first | (go_simp; done) | (go_simp; rfl)); intro gb114 hg w92 hbox hb; have n0_ := Aside0.mk (blk_below (g := gb108) (o := .cells #[.int .i64 a0_0, .int .i64 a0_1, .int .i64 a0_2, .int .i64 a0_3] 48 (0, 0)) (by (with_reducible repeat (first | refine blk_drewN ?_ _ | refine blk_drew ?_ | refine blk_alloc ?_ _)); exact BK108.out) hb); have n1_ := Aside0.mk (blk_below (g := gb109) (o := .cells #[.int .i64 a3_0, .int .i64 a3_1, .int .i64 a3_2] 34 (0, 0)) (by (with_reducible repeat (first | refine blk_drewN ?_ _ | refine blk_drew ?_ | refine blk_alloc ?_ _)); exact BK109.out) hb); have n2_ := Aside0.mk (blk_below (g := gb110) (o := .cells #[.int .i64 0, .int .i64 0, .int .i64 0, .int .i64 0] 48 (0, 0)) (by (with_reducible repeat (first | refine blk_drewN ?_ _ | refine blk_drew ?_ | refine blk_alloc ?_ _)); exact BK110.out) hb); have n3_ := Aside0.mk (blk_below (g := gb111) (o := .cells #[.int .i64 0, .bool false, .int .i64 0, .int .i64 0] 36 (0, 0)) (by (with_reducible repeat (first | refine blk_drewN ?_ _ | refine blk_drew ?_ | refine blk_alloc ?_ _)); exact BK111.out) hb); have n4_ := Aside0.mk (blk_below (g := gb112) (o := .cells #[.int .i64 0, .bool false, .int .i64 a0_0, .int .i64 a3_2] 36 (0, 0)) (by (with_reducible repeat (first | refine blk_drewN ?_ _ | refine blk_drew ?_ | refine blk_alloc ?_ _)); exact BK112.out) hb); have n5_ := Aside0.mk (below_step (by repeat (first | (with_reducible first | exact HB.out | apply below_alloc | apply pw_below_drewN | apply below_drew1 | refine below_set ?_ GE108.out | refine below_set ?_ GE109.out | refine below_set ?_ GE110.out | refine below_set ?_ GE111.out | refine below_set ?_ GE112.out) | exact HB.out)) hb); have n6_ := Aside0.mk (hbox); have n7_ := Aside0.mk ((by rw [hg]; exact (below_size (by repeat (first | (with_reducible first | exact HB.out | apply below_alloc | apply pw_below_drewN | apply below_drew1 | refine below_set ?_ GE108.out | refine below_set ?_ GE109.out | refine below_set ?_ GE110.out | refine below_set ?_ GE111.out | refine below_set ?_ GE112.out) | exact HB.out))) : w.heap.size ≤ gb114)); have n8_ := Aside0.mk ((by rw [hg]; exact (below_size (by repeat (first | (with_reducible first | exact HB.out | apply below_alloc | apply pw_below_drewN | apply below_drew1 | refine below_set ?_ GE108.out | refine below_set ?_ GE109.out | refine below_set ?_ GE110.out | refine below_set ?_ GE111.out | refine below_set ?_ GE112.out) | exact HB.out))) : w.heap.size ≤ gb114)); have n9_ := Aside0.mk ((by rw [hg]; exact Nat.ne_of_lt (blk_lt (g := gb108) (o := .cells #[.int .i64 a0_0, .int .i64 a0_1, .int .i64 a0_2, .int .i64 a0_3] 48 (0, 0)) (by (with_reducible repeat (first | refine blk_drewN ?_ _ | refine blk_drew ?_ | refine blk_alloc ?_ _)); exact BK108.out)) : gb108 ≠ gb114)); have n10_ := Aside0.mk ((by rw [hg]; exact Nat.ne_of_gt (blk_lt (g := gb108) (o := .cells #[.int .i64 a0_0, .int .i64 a0_1, .int .i64 a0_2, .int .i64 a0_3] 48 (0, 0)) (by (with_reducible repeat (first | refine blk_drewN ?_ _ | refine blk_drew ?_ | refine blk_alloc ?_ _)); exact BK108.out)) : gb114 ≠ gb108)); have n11_ := Aside0.mk ((by rw [hg]; exact Nat.ne_of_lt (blk_lt (g := gb109) (o := .cells #[.int .i64 a3_0, .int .i64 a3_1, .int .i64 a3_2] 34 (0, 0)) (by (with_reducible repeat (first | refine blk_drewN ?_ _ | refine blk_drew ?_ | refine blk_alloc ?_ _)); exact BK109.out)) : gb109 ≠ gb114)); have n12_ := Aside0.mk ((by rw [hg]; exact Nat.ne_of_gt (blk_lt (g := gb109) (o := .cells #[.int .i64 a3_0, .int .i64 a3_1, .int .i64 a3_2] 34 (0, 0)) (by (with_reducible repeat (first | refine blk_drewN ?_ _ | refine blk_drew ?_ | refine blk_alloc ?_ _)); exact BK109.out)) : gb114 ≠ gb109)); have n13_ := Aside0.mk ((by rw [hg]; exact Nat.ne_of_lt (blk_lt (g := gb110) (o := .cells #[.int .i64 0, .int .i64 0, .int .i64 0, .int .i64 0] 48 (0, 0)) (by (with_reducible repeat (first | refine blk_drewN ?_ _ | refine blk_drew ?_ | refine blk_alloc ?_ _)); exact BK110.out)) : gb110 ≠ gb114)); have n14_ := Aside0.mk ((by rw [hg]; exact Nat.ne_of_gt (blk_lt (g := gb110) (o := .cells #[.int .i64 0, .int .i64 0, .int .i64 0, .int .i64 0] 48 (0, 0)) (by (with_reducible repeat (first | refine blk_drewN ?_ _ | refine blk_drew ?_ | refine blk_alloc ?_ _)); exact BK110.out)) : gb114 ≠ gb110)); have n15_ := Aside0.mk ((by rw [hg]; exact Nat.ne_of_lt (blk_lt (g := gb111) (o := .cells #[.int .i64 0, .bool false, .int .i64 0, .int .i64 0] 36 (0, 0)) (by (with_reducible repeat (first | refine blk_drewN ?_ _ | refine blk_drew ?_ | refine blk_alloc ?_ _)); exact BK111.out)) : gb111 ≠ gb114)); have n16_ := Aside0.mk ((by rw [hg]; exact Nat.ne_of_gt (blk_lt (g := gb111) (o := .cells #[.int .i64 0, .bool false, .int .i64 0, .int .i64 0] 36 (0, 0)) (by (with_reducible repeat (first | refine blk_drewN ?_ _ | refine blk_drew ?_ | refine blk_alloc ?_ _)); exact BK111.out)) : gb114 ≠ gb111)); have n17_ := Aside0.mk ((by rw [hg]; exact Nat.ne_of_lt (blk_lt (g := gb112) (o := .cells #[.int .i64 0, .bool false, .int .i64 a0_0, .int .i64 a3_2] 36 (0, 0)) (by (with_reducible repeat (first | refine blk_drewN ?_ _ | refine blk_drew ?_ | refine blk_alloc ?_ _)); exact BK112.out)) : gb112 ≠ gb114)); have n18_ := Aside0.mk ((by rw [hg]; exact Nat.ne_of_gt (blk_lt (g := gb112) (o := .cells #[.int .i64 0, .bool false, .int .i64 a0_0, .int .i64 a3_2] 36 (0, 0)) (by (with_reducible repeat (first | refine blk_drewN ?_ _ | refine blk_drew ?_ | refine blk_alloc ?_ _)); exact BK112.out)) : gb114 ≠ gb112)); clear BK108; clear BK109; clear BK110; clear BK111; clear BK112; clear HB; have BK108 := n0_; have BK109 := n1_; have BK110 := n2_; have BK111 := n3_; have BK112 := n4_; have HB := n5_; have BK114 := n6_; have GW114 := n7_; have GE114 := n8_; have NB108_114 := n9_; have NB114_108 := n10_; have NB109_114 := n11_; have NB114_109 := n12_; have NB110_114 := n13_; have NB114_110 := n14_; have NB111_114 := n15_; have NB114_111 := n16_; have NB112_114 := n17_; have NB114_112 := n18_; clear n0_ n1_ n2_ n3_ n4_ n5_ n6_ n7_ n8_ n9_ n10_ n11_ n12_ n13_ n14_ n15_ n16_ n17_ n18_; clear hb hbox hg; have hnb93 := NB114_108.out; have hnc93 := NB108_114.out; have hnb94 := NB114_109.out; have hnc94 := NB109_114.out; have hnb95 := NB114_110.out; have hnc95 := NB110_114.out; have hnb96 := NB114_111.out; have hnc96 := NB111_114.out; have hnb97 := NB114_112.out; have hnc97 := NB112_114.out; have hcz98_0 : w92.cell? ⟨gb114, 0, none⟩ = some (.int .i64 0) := (blk_cell BK114.out 0).trans rfl; have hcz98_1 : w92.cell? ⟨gb114, 1, none⟩ = some (.int .i64 0) := (blk_cell BK114.out 1).trans rfl; have hcz98_2 : w92.cell? ⟨gb114, 2, none⟩ = some (.int .i64 0) := (blk_cell BK114.out 2).trans rfl; have hcz98_3 : w92.cell? ⟨gb114, 3, none⟩ = some (.int .i64 0) := (blk_cell BK114.out 3).trans rfl; have hfz98_0 := blk_frozen BK114.out 0; have hfz98_1 := blk_frozen BK114.out 1; have hfz98_2 := blk_frozen BK114.out 2; have hfz98_3 := blk_frozen BK114.out 3; have hcz99_0 : w92.cell? ⟨gb108, 0, none⟩ = some (.int .i64 a0_0) := (blk_cell BK108.out 0).trans rfl; have hcz99_1 : w92.cell? ⟨gb108, 1, none⟩ = some (.int .i64 a0_1) := (blk_cell BK108.out 1).trans rfl; have hcz99_2 : w92.cell? ⟨gb108, 2, none⟩ = some (.int .i64 a0_2) := (blk_cell BK108.out 2).trans rfl; have hcz99_3 : w92.cell? ⟨gb108, 3, none⟩ = some (.int .i64 a0_3) := (blk_cell BK108.out 3).trans rfl; have hfz99_0 := blk_frozen BK108.out 0; have hfz99_1 := blk_frozen BK108.out 1; have hfz99_2 := blk_frozen BK108.out 2; have hfz99_3 := blk_frozen BK108.out 3))
            have n0_ : Aside0 (((((w92.setCell ⟨gb114, 0, none⟩ (.int .i64 a3_1)).setCell ⟨gb114, 1, none⟩ (.int .i64 a3_0)).setCell ⟨gb114, 2, none⟩ (.int .i64 a0_2)).setCell ⟨gb114, 3, none⟩ (.int .i64 a0_3)).heap[gb108]? = some (.cells #[.int .i64 a0_0, .int .i64 a0_1, .int .i64 a0_2, .int .i64 a0_3] 48 (0, 0))) := ⟨by (with_reducible repeat (first | refine blk_drewN ?_ _ | refine blk_drew ?_ | refine blk_alloc ?_ _)); refine blk_far ?_ NB108_114.out _; (with_reducible repeat (first | refine blk_drewN ?_ _ | refine blk_drew ?_ | refine blk_alloc ?_ _)); refine blk_far ?_ NB108_114.out _; (with_reducible repeat (first | refine blk_drewN ?_ _ | refine blk_drew ?_ | refine blk_alloc ?_ _)); refine blk_far ?_ NB108_114.out _; (with_reducible repeat (first | refine blk_drewN ?_ _ | refine blk_drew ?_ | refine blk_alloc ?_ _)); refine blk_far ?_ NB108_114.out _; (with_reducible repeat (first | refine blk_drewN ?_ _ | refine blk_drew ?_ | refine blk_alloc ?_ _)); exact BK108.out⟩
            have n1_ : Aside0 (((((w92.setCell ⟨gb114, 0, none⟩ (.int .i64 a3_1)).setCell ⟨gb114, 1, none⟩ (.int .i64 a3_0)).setCell ⟨gb114, 2, none⟩ (.int .i64 a0_2)).setCell ⟨gb114, 3, none⟩ (.int .i64 a0_3)).heap[gb109]? = some (.cells #[.int .i64 a3_0, .int .i64 a3_1, .int .i64 a3_2] 34 (0, 0))) := ⟨by (with_reducible repeat (first | refine blk_drewN ?_ _ | refine blk_drew ?_ | refine blk_alloc ?_ _)); refine blk_far ?_ NB109_114.out _; (with_reducible repeat (first | refine blk_drewN ?_ _ | refine blk_drew ?_ | refine blk_alloc ?_ _)); refine blk_far ?_ NB109_114.out _; (with_reducible repeat (first | refine blk_drewN ?_ _ | refine blk_drew ?_ | refine blk_alloc ?_ _)); refine blk_far ?_ NB109_114.out _; (with_reducible repeat (first | refine blk_drewN ?_ _ | refine blk_drew ?_ | refine blk_alloc ?_ _)); refine blk_far ?_ NB109_114.out _; (with_reducible repeat (first | refine blk_drewN ?_ _ | refine blk_drew ?_ | refine blk_alloc ?_ _)); exact BK109.out⟩
            have n2_ : Aside0 (((((w92.setCell ⟨gb114, 0, none⟩ (.int .i64 a3_1)).setCell ⟨gb114, 1, none⟩ (.int .i64 a3_0)).setCell ⟨gb114, 2, none⟩ (.int .i64 a0_2)).setCell ⟨gb114, 3, none⟩ (.int .i64 a0_3)).heap[gb110]? = some (.cells #[.int .i64 0, .int .i64 0, .int .i64 0, .int .i64 0] 48 (0, 0))) := ⟨by (with_reducible repeat (first | refine blk_drewN ?_ _ | refine blk_drew ?_ | refine blk_alloc ?_ _)); refine blk_far ?_ NB110_114.out _; (with_reducible repeat (first | refine blk_drewN ?_ _ | refine blk_drew ?_ | refine blk_alloc ?_ _)); refine blk_far ?_ NB110_114.out _; (with_reducible repeat (first | refine blk_drewN ?_ _ | refine blk_drew ?_ | refine blk_alloc ?_ _)); refine blk_far ?_ NB110_114.out _; (with_reducible repeat (first | refine blk_drewN ?_ _ | refine blk_drew ?_ | refine blk_alloc ?_ _)); refine blk_far ?_ NB110_114.out _; (with_reducible repeat (first | refine blk_drewN ?_ _ | refine blk_drew ?_ | refine blk_alloc ?_ _)); exact BK110.out⟩
            have n3_ : Aside0 (((((w92.setCell ⟨gb114, 0, none⟩ (.int .i64 a3_1)).setCell ⟨gb114, 1, none⟩ (.int .i64 a3_0)).setCell ⟨gb114, 2, none⟩ (.int .i64 a0_2)).setCell ⟨gb114, 3, none⟩ (.int .i64 a0_3)).heap[gb111]? = some (.cells #[.int .i64 0, .bool false, .int .i64 0, .int .i64 0] 36 (0, 0))) := ⟨by (with_reducible repeat (first | refine blk_drewN ?_ _ | refine blk_drew ?_ | refine blk_alloc ?_ _)); refine blk_far ?_ NB111_114.out _; (with_reducible repeat (first | refine blk_drewN ?_ _ | refine blk_drew ?_ | refine blk_alloc ?_ _)); refine blk_far ?_ NB111_114.out _; (with_reducible repeat (first | refine blk_drewN ?_ _ | refine blk_drew ?_ | refine blk_alloc ?_ _)); refine blk_far ?_ NB111_114.out _; (with_reducible repeat (first | refine blk_drewN ?_ _ | refine blk_drew ?_ | refine blk_alloc ?_ _)); refine blk_far ?_ NB111_114.out _; (with_reducible repeat (first | refine blk_drewN ?_ _ | refine blk_drew ?_ | refine blk_alloc ?_ _)); exact BK111.out⟩
            have n4_ : Aside0 (((((w92.setCell ⟨gb114, 0, none⟩ (.int .i64 a3_1)).setCell ⟨gb114, 1, none⟩ (.int .i64 a3_0)).setCell ⟨gb114, 2, none⟩ (.int .i64 a0_2)).setCell ⟨gb114, 3, none⟩ (.int .i64 a0_3)).heap[gb112]? = some (.cells #[.int .i64 0, .bool false, .int .i64 a0_0, .int .i64 a3_2] 36 (0, 0))) := ⟨by (with_reducible repeat (first | refine blk_drewN ?_ _ | refine blk_drew ?_ | refine blk_alloc ?_ _)); refine blk_far ?_ NB112_114.out _; (with_reducible repeat (first | refine blk_drewN ?_ _ | refine blk_drew ?_ | refine blk_alloc ?_ _)); refine blk_far ?_ NB112_114.out _; (with_reducible repeat (first | refine blk_drewN ?_ _ | refine blk_drew ?_ | refine blk_alloc ?_ _)); refine blk_far ?_ NB112_114.out _; (with_reducible repeat (first | refine blk_drewN ?_ _ | refine blk_drew ?_ | refine blk_alloc ?_ _)); refine blk_far ?_ NB112_114.out _; (with_reducible repeat (first | refine blk_drewN ?_ _ | refine blk_drew ?_ | refine blk_alloc ?_ _)); exact BK112.out⟩
            have n5_ : Aside0 (((((w92.setCell ⟨gb114, 0, none⟩ (.int .i64 a3_1)).setCell ⟨gb114, 1, none⟩ (.int .i64 a3_0)).setCell ⟨gb114, 2, none⟩ (.int .i64 a0_2)).setCell ⟨gb114, 3, none⟩ (.int .i64 a0_3)).heap[gb114]? = some (.cells #[.int .i64 a3_1, .int .i64 a3_0, .int .i64 a0_2, .int .i64 a0_3] 48 (0, 0))) := ⟨by (with_reducible repeat (first | refine blk_drewN ?_ _ | refine blk_drew ?_ | refine blk_alloc ?_ _)); refine blk_put (cs := #[.int .i64 a3_1, .int .i64 a3_0, .int .i64 a0_2, .int .i64 0]) ?_ 3 _ rfl; (with_reducible repeat (first | refine blk_drewN ?_ _ | refine blk_drew ?_ | refine blk_alloc ?_ _)); refine blk_put (cs := #[.int .i64 a3_1, .int .i64 a3_0, .int .i64 0, .int .i64 0]) ?_ 2 _ rfl; (with_reducible repeat (first | refine blk_drewN ?_ _ | refine blk_drew ?_ | refine blk_alloc ?_ _)); refine blk_put (cs := #[.int .i64 a3_1, .int .i64 0, .int .i64 0, .int .i64 0]) ?_ 1 _ rfl; (with_reducible repeat (first | refine blk_drewN ?_ _ | refine blk_drew ?_ | refine blk_alloc ?_ _)); refine blk_put (cs := #[.int .i64 0, .int .i64 0, .int .i64 0, .int .i64 0]) ?_ 0 _ rfl; (with_reducible repeat (first | refine blk_drewN ?_ _ | refine blk_drew ?_ | refine blk_alloc ?_ _)); exact BK114.out⟩
            have n6_ : Aside0 (Below w.heap.size w ((((w92.setCell ⟨gb114, 0, none⟩ (.int .i64 a3_1)).setCell ⟨gb114, 1, none⟩ (.int .i64 a3_0)).setCell ⟨gb114, 2, none⟩ (.int .i64 a0_2)).setCell ⟨gb114, 3, none⟩ (.int .i64 a0_3))) := ⟨by repeat (first | (with_reducible first | exact HB.out | apply below_alloc | apply pw_below_drewN | apply below_drew1 | refine below_set ?_ GE108.out | refine below_set ?_ GE109.out | refine below_set ?_ GE110.out | refine below_set ?_ GE111.out | refine below_set ?_ GE112.out | refine below_set ?_ GE114.out) | exact HB.out)⟩
            (try clear BK108)
            (try clear BK109)
            (try clear BK110)
            (try clear BK111)
            (try clear BK112)
            (try clear BK114)
            (try clear HB)
            generalize ((((w92.setCell ⟨gb114, 0, none⟩ (.int .i64 a3_1)).setCell ⟨gb114, 1, none⟩ (.int .i64 a3_0)).setCell ⟨gb114, 2, none⟩ (.int .i64 a0_2)).setCell ⟨gb114, 3, none⟩ (.int .i64 a0_3)) = w100 at n0_ n1_ n2_ n3_ n4_ n5_ n6_ ⊢
            have BK108 := n0_
            have BK109 := n1_
            have BK110 := n2_
            have BK111 := n3_
            have BK112 := n4_
            have BK114 := n5_
            have HB := n6_
            clear n0_ n1_ n2_ n3_ n4_ n5_ n6_
            have n0_ := Aside0.mk (blk_drew BK108.out)
            have n1_ := Aside0.mk (blk_drew BK109.out)
            have n2_ := Aside0.mk (blk_drew BK110.out)
            have n3_ := Aside0.mk (blk_drew BK111.out)
            have n4_ := Aside0.mk (blk_drew BK112.out)
            have n5_ := Aside0.mk (blk_drew BK114.out)
            have n6_ := Aside0.mk (below_drew1 HB.out)
            clear BK108
            clear BK109
            clear BK110
            clear BK111
            clear BK112
            clear BK114
            clear HB
            have BK108 := n0_
            have BK109 := n1_
            have BK110 := n2_
            have BK111 := n3_
            have BK112 := n4_
            have BK114 := n5_
            have HB := n6_
            clear n0_ n1_ n2_ n3_ n4_ n5_ n6_
            refine start_ (n := 4) (S := fun w' => w'.cell? ⟨gb108, 0, none⟩ = some (.int .i64 a0_0) ∧ w'.cell? ⟨gb108, 1, none⟩ = some (.int .i64 a0_1) ∧ w'.cell? ⟨gb108, 2, none⟩ = some (.int .i64 a0_2) ∧ w'.cell? ⟨gb108, 3, none⟩ = some (.int .i64 a0_3) ∧ w'.cell? ⟨gb112, 0, none⟩ = some (.int .i64 0) ∧ w'.cell? ⟨gb112, 1, none⟩ = some (.bool false) ∧ w'.cell? ⟨gb112, 2, none⟩ = some (.int .i64 a0_0) ∧ w'.cell? ⟨gb112, 3, none⟩ = some (.int .i64 a3_2)) (ds := []) #[false, false, false, false] (by kernel_rfl) rfl rfl ⟨(blk_cell BK108.out 0).trans rfl, (blk_cell BK108.out 1).trans rfl, (blk_cell BK108.out 2).trans rfl, (blk_cell BK108.out 3).trans rfl, (blk_cell BK112.out 0).trans rfl, (blk_cell BK112.out 1).trans rfl, (blk_cell BK112.out 2).trans rfl, (blk_cell BK112.out 3).trans rfl⟩ (fun hHeld => ?_)
            generalize w100.drew = w101 at BK108 BK109 BK110 BK111 BK112 BK114 HB hHeld ⊢
            refine take_ (i := 0) (N := some 72) (v := ?_) (a' := ?_) #[true, false, false, false] rfl rfl (by kernel_rfl) (fun _ _ _ h => h) (Or.inl ⟨by rfl, ?_⟩) hHeld ?_ ?_
            rotate_left
            · rintro w' ⟨s0, s1, s2, s3, s4, s5, s6, s7⟩
              go_simp
              with_reducible rfl
            rotate_left
            · simp only [Act.put, List.setIfInBounds_toArray, List.set_cons_zero, List.set_cons_succ, i64_w, i32_w]
              rfl
            refine take_ (i := 1) (N := some 73) (v := ?_) (a' := ?_) #[true, true, false, false] rfl rfl (by kernel_rfl) (fun _ _ _ h => h) (Or.inl ⟨by rfl, ?_⟩) hHeld ?_ ?_
            rotate_left
            · rintro w' ⟨s0, s1, s2, s3, s4, s5, s6, s7⟩
              go_simp
              with_reducible rfl
            rotate_left
            · simp only [Act.put, List.setIfInBounds_toArray, List.set_cons_zero, List.set_cons_succ, i64_w, i32_w]
              rfl
            refine one_ (i := 2) (N := none) #[true, true, true, false] rfl rfl (by kernel_rfl) (by decide) (fun K hK => ?_)
            have hs102 : w101.cell? ⟨gb110, 0, none⟩ = some (.int .i64 0) := (blk_cell BK110.out 0).trans rfl
            have hfs102 := blk_frozen BK110.out 0
            have hns102_0 := NB108_110.out
            have hns102_1 := NB109_110.out
            have hns102_3 := NB111_110.out
            have hns102_4 := NB112_110.out
            have hns102_5 := NB114_110.out
            have hms102_0 := NB110_108.out
            have hms102_1 := NB110_109.out
            have hms102_3 := NB110_111.out
            have hms102_4 := NB110_112.out
            have hms102_5 := NB110_114.out
            have hs103 : w101.cell? ⟨gb110, 1, none⟩ = some (.int .i64 0) := (blk_cell BK110.out 1).trans rfl
            have hfs103 := blk_frozen BK110.out 1
            have hns103_0 := NB108_110.out
            have hns103_1 := NB109_110.out
            have hns103_3 := NB111_110.out
            have hns103_4 := NB112_110.out
            have hns103_5 := NB114_110.out
            have hms103_0 := NB110_108.out
            have hms103_1 := NB110_109.out
            have hms103_3 := NB110_111.out
            have hms103_4 := NB110_112.out
            have hms103_5 := NB110_114.out
            have hs104 : w101.cell? ⟨gb110, 2, none⟩ = some (.int .i64 0) := (blk_cell BK110.out 2).trans rfl
            have hfs104 := blk_frozen BK110.out 2
            have hns104_0 := NB108_110.out
            have hns104_1 := NB109_110.out
            have hns104_3 := NB111_110.out
            have hns104_4 := NB112_110.out
            have hns104_5 := NB114_110.out
            have hms104_0 := NB110_108.out
            have hms104_1 := NB110_109.out
            have hms104_3 := NB110_111.out
            have hms104_4 := NB110_112.out
            have hms104_5 := NB110_114.out
            have hs105 : w101.cell? ⟨gb110, 3, none⟩ = some (.int .i64 0) := (blk_cell BK110.out 3).trans rfl
            have hfs105 := blk_frozen BK110.out 3
            have hns105_0 := NB108_110.out
            have hns105_1 := NB109_110.out
            have hns105_3 := NB111_110.out
            have hns105_4 := NB112_110.out
            have hns105_5 := NB114_110.out
            have hms105_0 := NB110_108.out
            have hms105_1 := NB110_109.out
            have hms105_3 := NB110_111.out
            have hms105_4 := NB110_112.out
            have hms105_5 := NB110_114.out
            refine skip_ (w1 := ?_) (by rfl) rfl ?_ ?_
            rotate_left
            · go_simp
              rfl
            refine hK.out _ _ ⟨((cell_far (p := ⟨gb110, _, none⟩) NB108_110.out _).trans (((cell_far (p := ⟨gb110, _, none⟩) NB108_110.out _).trans (((cell_far (p := ⟨gb110, _, none⟩) NB108_110.out _).trans (((cell_far (p := ⟨gb110, _, none⟩) NB108_110.out _).trans (hHeld.1)))))))), ((cell_far (p := ⟨gb110, _, none⟩) NB108_110.out _).trans (((cell_far (p := ⟨gb110, _, none⟩) NB108_110.out _).trans (((cell_far (p := ⟨gb110, _, none⟩) NB108_110.out _).trans (((cell_far (p := ⟨gb110, _, none⟩) NB108_110.out _).trans (hHeld.2.1)))))))), ((cell_far (p := ⟨gb110, _, none⟩) NB108_110.out _).trans (((cell_far (p := ⟨gb110, _, none⟩) NB108_110.out _).trans (((cell_far (p := ⟨gb110, _, none⟩) NB108_110.out _).trans (((cell_far (p := ⟨gb110, _, none⟩) NB108_110.out _).trans (hHeld.2.2.1)))))))), ((cell_far (p := ⟨gb110, _, none⟩) NB108_110.out _).trans (((cell_far (p := ⟨gb110, _, none⟩) NB108_110.out _).trans (((cell_far (p := ⟨gb110, _, none⟩) NB108_110.out _).trans (((cell_far (p := ⟨gb110, _, none⟩) NB108_110.out _).trans (hHeld.2.2.2.1)))))))), ((cell_far (p := ⟨gb110, _, none⟩) NB112_110.out _).trans (((cell_far (p := ⟨gb110, _, none⟩) NB112_110.out _).trans (((cell_far (p := ⟨gb110, _, none⟩) NB112_110.out _).trans (((cell_far (p := ⟨gb110, _, none⟩) NB112_110.out _).trans (hHeld.2.2.2.2.1)))))))), ((cell_far (p := ⟨gb110, _, none⟩) NB112_110.out _).trans (((cell_far (p := ⟨gb110, _, none⟩) NB112_110.out _).trans (((cell_far (p := ⟨gb110, _, none⟩) NB112_110.out _).trans (((cell_far (p := ⟨gb110, _, none⟩) NB112_110.out _).trans (hHeld.2.2.2.2.2.1)))))))), ((cell_far (p := ⟨gb110, _, none⟩) NB112_110.out _).trans (((cell_far (p := ⟨gb110, _, none⟩) NB112_110.out _).trans (((cell_far (p := ⟨gb110, _, none⟩) NB112_110.out _).trans (((cell_far (p := ⟨gb110, _, none⟩) NB112_110.out _).trans (hHeld.2.2.2.2.2.2.1)))))))), ((cell_far (p := ⟨gb110, _, none⟩) NB112_110.out _).trans (((cell_far (p := ⟨gb110, _, none⟩) NB112_110.out _).trans (((cell_far (p := ⟨gb110, _, none⟩) NB112_110.out _).trans (((cell_far (p := ⟨gb110, _, none⟩) NB112_110.out _).trans (hHeld.2.2.2.2.2.2.2))))))))⟩ (fun hHeld => ?_)
            clear hK K
            refine one_ (i := 3) (N := none) #[true, true, true, true] rfl rfl (by kernel_rfl) (by decide) (fun K hK => ?_)
            have hs106 : w101.cell? ⟨gb111, 0, none⟩ = some (.int .i64 0) := (blk_cell BK111.out 0).trans rfl
            have hfs106 := blk_frozen BK111.out 0
            have hns106_0 := NB108_111.out
            have hns106_1 := NB109_111.out
            have hns106_2 := NB110_111.out
            have hns106_4 := NB112_111.out
            have hns106_5 := NB114_111.out
            have hms106_0 := NB111_108.out
            have hms106_1 := NB111_109.out
            have hms106_2 := NB111_110.out
            have hms106_4 := NB111_112.out
            have hms106_5 := NB111_114.out
            have hs107 : w101.cell? ⟨gb111, 1, none⟩ = some (.bool false) := (blk_cell BK111.out 1).trans rfl
            have hfs107 := blk_frozen BK111.out 1
            have hns107_0 := NB108_111.out
            have hns107_1 := NB109_111.out
            have hns107_2 := NB110_111.out
            have hns107_4 := NB112_111.out
            have hns107_5 := NB114_111.out
            have hms107_0 := NB111_108.out
            have hms107_1 := NB111_109.out
            have hms107_2 := NB111_110.out
            have hms107_4 := NB111_112.out
            have hms107_5 := NB111_114.out
            have hs108 : w101.cell? ⟨gb111, 2, none⟩ = some (.int .i64 0) := (blk_cell BK111.out 2).trans rfl
            have hfs108 := blk_frozen BK111.out 2
            have hns108_0 := NB108_111.out
            have hns108_1 := NB109_111.out
            have hns108_2 := NB110_111.out
            have hns108_4 := NB112_111.out
            have hns108_5 := NB114_111.out
            have hms108_0 := NB111_108.out
            have hms108_1 := NB111_109.out
            have hms108_2 := NB111_110.out
            have hms108_4 := NB111_112.out
            have hms108_5 := NB111_114.out
            have hs109 : w101.cell? ⟨gb111, 3, none⟩ = some (.int .i64 0) := (blk_cell BK111.out 3).trans rfl
            have hfs109 := blk_frozen BK111.out 3
            have hns109_0 := NB108_111.out
            have hns109_1 := NB109_111.out
            have hns109_2 := NB110_111.out
            have hns109_4 := NB112_111.out
            have hns109_5 := NB114_111.out
            have hms109_0 := NB111_108.out
            have hms109_1 := NB111_109.out
            have hms109_2 := NB111_110.out
            have hms109_4 := NB111_112.out
            have hms109_5 := NB111_114.out
            refine skip_ (w1 := ?_) (by rfl) rfl ?_ ?_
            rotate_left
            · go_simp
              rfl
            refine hK.out _ _ ⟨((cell_far (p := ⟨gb111, _, none⟩) NB108_111.out _).trans (((cell_far (p := ⟨gb111, _, none⟩) NB108_111.out _).trans (((cell_far (p := ⟨gb111, _, none⟩) NB108_111.out _).trans (((cell_far (p := ⟨gb111, _, none⟩) NB108_111.out _).trans (hHeld.1)))))))), ((cell_far (p := ⟨gb111, _, none⟩) NB108_111.out _).trans (((cell_far (p := ⟨gb111, _, none⟩) NB108_111.out _).trans (((cell_far (p := ⟨gb111, _, none⟩) NB108_111.out _).trans (((cell_far (p := ⟨gb111, _, none⟩) NB108_111.out _).trans (hHeld.2.1)))))))), ((cell_far (p := ⟨gb111, _, none⟩) NB108_111.out _).trans (((cell_far (p := ⟨gb111, _, none⟩) NB108_111.out _).trans (((cell_far (p := ⟨gb111, _, none⟩) NB108_111.out _).trans (((cell_far (p := ⟨gb111, _, none⟩) NB108_111.out _).trans (hHeld.2.2.1)))))))), ((cell_far (p := ⟨gb111, _, none⟩) NB108_111.out _).trans (((cell_far (p := ⟨gb111, _, none⟩) NB108_111.out _).trans (((cell_far (p := ⟨gb111, _, none⟩) NB108_111.out _).trans (((cell_far (p := ⟨gb111, _, none⟩) NB108_111.out _).trans (hHeld.2.2.2.1)))))))), ((cell_far (p := ⟨gb111, _, none⟩) NB112_111.out _).trans (((cell_far (p := ⟨gb111, _, none⟩) NB112_111.out _).trans (((cell_far (p := ⟨gb111, _, none⟩) NB112_111.out _).trans (((cell_far (p := ⟨gb111, _, none⟩) NB112_111.out _).trans (hHeld.2.2.2.2.1)))))))), ((cell_far (p := ⟨gb111, _, none⟩) NB112_111.out _).trans (((cell_far (p := ⟨gb111, _, none⟩) NB112_111.out _).trans (((cell_far (p := ⟨gb111, _, none⟩) NB112_111.out _).trans (((cell_far (p := ⟨gb111, _, none⟩) NB112_111.out _).trans (hHeld.2.2.2.2.2.1)))))))), ((cell_far (p := ⟨gb111, _, none⟩) NB112_111.out _).trans (((cell_far (p := ⟨gb111, _, none⟩) NB112_111.out _).trans (((cell_far (p := ⟨gb111, _, none⟩) NB112_111.out _).trans (((cell_far (p := ⟨gb111, _, none⟩) NB112_111.out _).trans (hHeld.2.2.2.2.2.2.1)))))))), ((cell_far (p := ⟨gb111, _, none⟩) NB112_111.out _).trans (((cell_far (p := ⟨gb111, _, none⟩) NB112_111.out _).trans (((cell_far (p := ⟨gb111, _, none⟩) NB112_111.out _).trans (((cell_far (p := ⟨gb111, _, none⟩) NB112_111.out _).trans (hHeld.2.2.2.2.2.2.2))))))))⟩ (fun hHeld => ?_)
            clear hK K
            refine done_ (by kernel_rfl) ?_
            try go_wp2
            refine bodyPost_ret (results_cc rfl _ _ gb110 gb111 48 36 #[.int .i64 a0_0, .int .i64 a0_1, .int .i64 a0_2, .int .i64 a0_3] #[.int .i64 0, .bool false, .int .i64 a0_0, .int .i64 a3_2] (0, 0) (0, 0) _ _ rfl (by (with_reducible repeat (first | refine blk_drewN ?_ _ | refine blk_drew ?_ | refine blk_alloc ?_ _)); refine blk_far ?_ NB110_111.out _; (with_reducible repeat (first | refine blk_drewN ?_ _ | refine blk_drew ?_ | refine blk_alloc ?_ _)); refine blk_far ?_ NB110_111.out _; (with_reducible repeat (first | refine blk_drewN ?_ _ | refine blk_drew ?_ | refine blk_alloc ?_ _)); refine blk_far ?_ NB110_111.out _; (with_reducible repeat (first | refine blk_drewN ?_ _ | refine blk_drew ?_ | refine blk_alloc ?_ _)); refine blk_far ?_ NB110_111.out _; (with_reducible repeat (first | refine blk_drewN ?_ _ | refine blk_drew ?_ | refine blk_alloc ?_ _)); refine blk_put (cs := #[.int .i64 a0_0, .int .i64 a0_1, .int .i64 a0_2, .int .i64 0]) ?_ 3 _ rfl; (with_reducible repeat (first | refine blk_drewN ?_ _ | refine blk_drew ?_ | refine blk_alloc ?_ _)); refine blk_put (cs := #[.int .i64 a0_0, .int .i64 a0_1, .int .i64 0, .int .i64 0]) ?_ 2 _ rfl; (with_reducible repeat (first | refine blk_drewN ?_ _ | refine blk_drew ?_ | refine blk_alloc ?_ _)); refine blk_put (cs := #[.int .i64 a0_0, .int .i64 0, .int .i64 0, .int .i64 0]) ?_ 1 _ rfl; (with_reducible repeat (first | refine blk_drewN ?_ _ | refine blk_drew ?_ | refine blk_alloc ?_ _)); refine blk_put (cs := #[.int .i64 0, .int .i64 0, .int .i64 0, .int .i64 0]) ?_ 0 _ rfl; (with_reducible repeat (first | refine blk_drewN ?_ _ | refine blk_drew ?_ | refine blk_alloc ?_ _)); exact BK110.out) Try.underlying48 rfl (by kernel_rfl) rfl (by (with_reducible repeat (first | refine blk_drewN ?_ _ | refine blk_drew ?_ | refine blk_alloc ?_ _)); refine blk_put (cs := #[.int .i64 0, .bool false, .int .i64 a0_0, .int .i64 0]) ?_ 3 _ rfl; (with_reducible repeat (first | refine blk_drewN ?_ _ | refine blk_drew ?_ | refine blk_alloc ?_ _)); refine blk_put (cs := #[.int .i64 0, .bool false, .int .i64 0, .int .i64 0]) ?_ 2 _ rfl; (with_reducible repeat (first | refine blk_drewN ?_ _ | refine blk_drew ?_ | refine blk_alloc ?_ _)); refine blk_put (cs := #[.int .i64 0, .bool false, .int .i64 0, .int .i64 0]) ?_ 1 _ rfl; (with_reducible repeat (first | refine blk_drewN ?_ _ | refine blk_drew ?_ | refine blk_alloc ?_ _)); refine blk_put (cs := #[.int .i64 0, .bool false, .int .i64 0, .int .i64 0]) ?_ 0 _ rfl; (with_reducible repeat (first | refine blk_drewN ?_ _ | refine blk_drew ?_ | refine blk_alloc ?_ _)); refine blk_far ?_ NB111_110.out _; (with_reducible repeat (first | refine blk_drewN ?_ _ | refine blk_drew ?_ | refine blk_alloc ?_ _)); refine blk_far ?_ NB111_110.out _; (with_reducible repeat (first | refine blk_drewN ?_ _ | refine blk_drew ?_ | refine blk_alloc ?_ _)); refine blk_far ?_ NB111_110.out _; (with_reducible repeat (first | refine blk_drewN ?_ _ | refine blk_drew ?_ | refine blk_alloc ?_ _)); refine blk_far ?_ NB111_110.out _; (with_reducible repeat (first | refine blk_drewN ?_ _ | refine blk_drew ?_ | refine blk_alloc ?_ _)); exact BK111.out) Try.underlying36 rfl (by kernel_rfl)) rfl ?_
            exact ⟨by first | rfl | (simp [errW_none, errW_some] <;> rfl) | (simp [*, errW_none, errW_some] <;> rfl), by repeat (first | (with_reducible first | exact HB.out | apply below_alloc | apply pw_below_drewN | apply below_drew1 | refine below_set ?_ GE108.out | refine below_set ?_ GE109.out | refine below_set ?_ GE110.out | refine below_set ?_ GE111.out | refine below_set ?_ GE112.out | refine below_set ?_ GE114.out) | exact HB.out)⟩
          · rw [if_neg c82] at H
            have c82b0 : decide (a1 < a0_2) = false := decide_eq_false c82
            clear c82
            by_cases c110 : a3_1 ≤ a0_0
            · rw [if_pos c110] at H
              have c110b0 : decide (a3_1 ≤ a0_0) = true := decide_eq_true c110
              clear c110
              simp only [Option.some.injEq, Prod.mk.injEq] at H
              obtain ⟨rfl, rfl, rfl, rfl, rfl, rfl, rfl, rfl⟩ := H
              have hnb111 := NB109_108.out
              have hnc111 := NB108_109.out
              have hnb112 := NB109_110.out
              have hnc112 := NB110_109.out
              have hnb113 := NB109_111.out
              have hnc113 := NB111_109.out
              have hnb114 := NB109_112.out
              have hnc114 := NB112_109.out
              have hcz115_0 : wc.cell? ⟨gb109, 0, none⟩ = some (.int .i64 a3_0) := (blk_cell BK109.out 0).trans rfl
              have hcz115_1 : wc.cell? ⟨gb109, 1, none⟩ = some (.int .i64 a3_1) := (blk_cell BK109.out 1).trans rfl
              have hcz115_2 : wc.cell? ⟨gb109, 2, none⟩ = some (.int .i64 a3_2) := (blk_cell BK109.out 2).trans rfl
              have hfz115_0 := blk_frozen BK109.out 0
              have hfz115_1 := blk_frozen BK109.out 1
              have hfz115_2 := blk_frozen BK109.out 2
              have hnb116 := NB108_110.out
              have hnc116 := NB110_108.out
              have hnb117 := NB108_111.out
              have hnc117 := NB111_108.out
              have hnb118 := NB108_112.out
              have hnc118 := NB112_108.out
              have hcz119_0 : wc.cell? ⟨gb108, 0, none⟩ = some (.int .i64 a0_0) := (blk_cell BK108.out 0).trans rfl
              have hcz119_1 : wc.cell? ⟨gb108, 1, none⟩ = some (.int .i64 a0_1) := (blk_cell BK108.out 1).trans rfl
              have hcz119_2 : wc.cell? ⟨gb108, 2, none⟩ = some (.int .i64 a0_2) := (blk_cell BK108.out 2).trans rfl
              have hcz119_3 : wc.cell? ⟨gb108, 3, none⟩ = some (.int .i64 a0_3) := (blk_cell BK108.out 3).trans rfl
              have hfz119_0 := blk_frozen BK108.out 0
              have hfz119_1 := blk_frozen BK108.out 1
              have hfz119_2 := blk_frozen BK108.out 2
              have hfz119_3 := blk_frozen BK108.out 3
              try go_wp2_with (first | ((with_reducible refine gate_dst (N := 11) rfl ?_); refine box_event ?hg (N := 11) ?hd (cs := #[.int .i64 0, .int .i64 0, .int .i64 0, .int .i64 0]) (t := 48) ?hr ?_; (case hd => rfl); (case hg => rfl); (case hr => first | (go_simp; done) | (go_simp; rfl)); intro gb114 hg w120 hbox hb; have n0_ := Aside0.mk (blk_below (g := gb108) (o := .cells #[.int .i64 a0_0, .int .i64 a0_1, .int .i64 a0_2, .int .i64 a0_3] 48 (0, 0)) (by (with_reducible repeat (first | refine blk_drewN ?_ _ | refine blk_drew ?_ | refine blk_alloc ?_ _)); exact BK108.out) hb); have n1_ := Aside0.mk (blk_below (g := gb109) (o := .cells #[.int .i64 a3_0, .int .i64 a3_1, .int .i64 a3_2] 34 (0, 0)) (by (with_reducible repeat (first | refine blk_drewN ?_ _ | refine blk_drew ?_ | refine blk_alloc ?_ _)); exact BK109.out) hb); have n2_ := Aside0.mk (blk_below (g := gb110) (o := .cells #[.int .i64 0, .int .i64 0, .int .i64 0, .int .i64 0] 48 (0, 0)) (by (with_reducible repeat (first | refine blk_drewN ?_ _ | refine blk_drew ?_ | refine blk_alloc ?_ _)); exact BK110.out) hb); have n3_ := Aside0.mk (blk_below (g := gb111) (o := .cells #[.int .i64 0, .bool false, .int .i64 0, .int .i64 0] 36 (0, 0)) (by (with_reducible repeat (first | refine blk_drewN ?_ _ | refine blk_drew ?_ | refine blk_alloc ?_ _)); exact BK111.out) hb); have n4_ := Aside0.mk (blk_below (g := gb112) (o := .cells #[.int .i64 0, .bool false, .int .i64 a0_0, .int .i64 a3_2] 36 (0, 0)) (by (with_reducible repeat (first | refine blk_drewN ?_ _ | refine blk_drew ?_ | refine blk_alloc ?_ _)); exact BK112.out) hb); have n5_ := Aside0.mk (below_step (by repeat (first | (with_reducible first | exact HB.out | apply below_alloc | apply pw_below_drewN | apply below_drew1 | refine below_set ?_ GE108.out | refine below_set ?_ GE109.out | refine below_set ?_ GE110.out | refine below_set ?_ GE111.out | refine below_set ?_ GE112.out) | exact HB.out)) hb); have n6_ := Aside0.mk (hbox); have n7_ := Aside0.mk ((by rw [hg]; exact (below_size (by repeat (first | (with_reducible first | exact HB.out | apply below_alloc | apply pw_below_drewN | apply below_drew1 | refine below_set ?_ GE108.out | refine below_set ?_ GE109.out | refine below_set ?_ GE110.out | refine below_set ?_ GE111.out | refine below_set ?_ GE112.out) | exact HB.out))) : w.heap.size ≤ gb114)); have n8_ := Aside0.mk ((by rw [hg]; exact (below_size (by repeat (first | (with_reducible first | exact HB.out | apply below_alloc | apply pw_below_drewN | apply below_drew1 | refine below_set ?_ GE108.out | refine below_set ?_ GE109.out | refine below_set ?_ GE110.out | refine below_set ?_ GE111.out | refine below_set ?_ GE112.out) | exact HB.out))) : w.heap.size ≤ gb114)); have n9_ := Aside0.mk ((by rw [hg]; exact Nat.ne_of_lt (blk_lt (g := gb108) (o := .cells #[.int .i64 a0_0, .int .i64 a0_1, .int .i64 a0_2, .int .i64 a0_3] 48 (0, 0)) (by (with_reducible repeat (first | refine blk_drewN ?_ _ | refine blk_drew ?_ | refine blk_alloc ?_ _)); exact BK108.out)) : gb108 ≠ gb114)); have n10_ := Aside0.mk ((by rw [hg]; exact Nat.ne_of_gt (blk_lt (g := gb108) (o := .cells #[.int .i64 a0_0, .int .i64 a0_1, .int .i64 a0_2, .int .i64 a0_3] 48 (0, 0)) (by (with_reducible repeat (first | refine blk_drewN ?_ _ | refine blk_drew ?_ | refine blk_alloc ?_ _)); exact BK108.out)) : gb114 ≠ gb108)); have n11_ := Aside0.mk ((by rw [hg]; exact Nat.ne_of_lt (blk_lt (g := gb109) (o := .cells #[.int .i64 a3_0, .int .i64 a3_1, .int .i64 a3_2] 34 (0, 0)) (by (with_reducible repeat (first | refine blk_drewN ?_ _ | refine blk_drew ?_ | refine blk_alloc ?_ _)); exact BK109.out)) : gb109 ≠ gb114)); have n12_ := Aside0.mk ((by rw [hg]; exact Nat.ne_of_gt (blk_lt (g := gb109) (o := .cells #[.int .i64 a3_0, .int .i64 a3_1, .int .i64 a3_2] 34 (0, 0)) (by (with_reducible repeat (first | refine blk_drewN ?_ _ | refine blk_drew ?_ | refine blk_alloc ?_ _)); exact BK109.out)) : gb114 ≠ gb109)); have n13_ := Aside0.mk ((by rw [hg]; exact Nat.ne_of_lt (blk_lt (g := gb110) (o := .cells #[.int .i64 0, .int .i64 0, .int .i64 0, .int .i64 0] 48 (0, 0)) (by (with_reducible repeat (first | refine blk_drewN ?_ _ | refine blk_drew ?_ | refine blk_alloc ?_ _)); exact BK110.out)) : gb110 ≠ gb114)); have n14_ := Aside0.mk ((by rw [hg]; exact Nat.ne_of_gt (blk_lt (g := gb110) (o := .cells #[.int .i64 0, .int .i64 0, .int .i64 0, .int .i64 0] 48 (0, 0)) (by (with_reducible repeat (first | refine blk_drewN ?_ _ | refine blk_drew ?_ | refine blk_alloc ?_ _)); exact BK110.out)) : gb114 ≠ gb110)); have n15_ := Aside0.mk ((by rw [hg]; exact Nat.ne_of_lt (blk_lt (g := gb111) (o := .cells #[.int .i64 0, .bool false, .int .i64 0, .int .i64 0] 36 (0, 0)) (by (with_reducible repeat (first | refine blk_drewN ?_ _ | refine blk_drew ?_ | refine blk_alloc ?_ _)); exact BK111.out)) : gb111 ≠ gb114)); have n16_ := Aside0.mk ((by rw [hg]; exact Nat.ne_of_gt (blk_lt (g := gb111) (o := .cells #[.int .i64 0, .bool false, .int .i64 0, .int .i64 0] 36 (0, 0)) (by (with_reducible repeat (first | refine blk_drewN ?_ _ | refine blk_drew ?_ | refine blk_alloc ?_ _)); exact BK111.out)) : gb114 ≠ gb111)); have n17_ := Aside0.mk ((by rw [hg]; exact Nat.ne_of_lt (blk_lt (g := gb112) (o := .cells #[.int .i64 0, .bool false, .int .i64 a0_0, .int .i64 a3_2] 36 (0, 0)) (by (with_reducible repeat (first | refine blk_drewN ?_ _ | refine blk_drew ?_ | refine blk_alloc ?_ _)); exact BK112.out)) : gb112 ≠ gb114)); have n18_ := Aside0.mk ((by rw [hg]; exact Nat.ne_of_gt (blk_lt (g := gb112) (o := .cells #[.int .i64 0, .bool false, .int .i64 a0_0, .int .i64 a3_2] 36 (0, 0)) (by (with_reducible repeat (first | refine blk_drewN ?_ _ | refine blk_drew ?_ | refine blk_alloc ?_ _)); exact BK112.out)) : gb114 ≠ gb112)); clear BK108; clear BK109; clear BK110; clear BK111; clear BK112; clear HB; have BK108 := n0_; have BK109 := n1_; have BK110 := n2_; have BK111 := n3_; have BK112 := n4_; have HB := n5_; have BK114 := n6_; have GW114 := n7_; have GE114 := n8_; have NB108_114 := n9_; have NB114_108 := n10_; have NB109_114 := n11_; have NB114_109 := n12_; have NB110_114 := n13_; have NB114_110 := n14_; have NB111_114 := n15_; have NB114_111 := n16_; have NB112_114 := n17_; have NB114_112 := n18_; clear n0_ n1_ n2_ n3_ n4_ n5_ n6_ n7_ n8_ n9_ n10_ n11_ n12_ n13_ n14_ n15_ n16_ n17_ n18_; clear hb hbox hg; have hnb121 := NB114_108.out; have hnc121 := NB108_114.out; have hnb122 := NB114_109.out; have hnc122 := NB109_114.out; have hnb123 := NB114_110.out; have hnc123 := NB110_114.out; have hnb124 := NB114_111.out; have hnc124 := NB111_114.out; have hnb125 := NB114_112.out; have hnc125 := NB112_114.out; have hcz126_0 : w120.cell? ⟨gb114, 0, none⟩ = some (.int .i64 0) := (blk_cell BK114.out 0).trans rfl; have hcz126_1 : w120.cell? ⟨gb114, 1, none⟩ = some (.int .i64 0) := (blk_cell BK114.out 1).trans rfl; have hcz126_2 : w120.cell? ⟨gb114, 2, none⟩ = some (.int .i64 0) := (blk_cell BK114.out 2).trans rfl; have hcz126_3 : w120.cell? ⟨gb114, 3, none⟩ = some (.int .i64 0) := (blk_cell BK114.out 3).trans rfl; have hfz126_0 := blk_frozen BK114.out 0; have hfz126_1 := blk_frozen BK114.out 1; have hfz126_2 := blk_frozen BK114.out 2; have hfz126_3 := blk_frozen BK114.out 3; have hcz127_0 : w120.cell? ⟨gb108, 0, none⟩ = some (.int .i64 a0_0) := (blk_cell BK108.out 0).trans rfl; have hcz127_1 : w120.cell? ⟨gb108, 1, none⟩ = some (.int .i64 a0_1) := (blk_cell BK108.out 1).trans rfl; have hcz127_2 : w120.cell? ⟨gb108, 2, none⟩ = some (.int .i64 a0_2) := (blk_cell BK108.out 2).trans rfl; have hcz127_3 : w120.cell? ⟨gb108, 3, none⟩ = some (.int .i64 a0_3) := (blk_cell BK108.out 3).trans rfl; have hfz127_0 := blk_frozen BK108.out 0; have hfz127_1 := blk_frozen BK108.out 1; have hfz127_2 := blk_frozen BK108.out 2; have hfz127_3 := blk_frozen BK108.out 3; have hcz128_0 : w120.cell? ⟨gb109, 0, none⟩ = some (.int .i64 a3_0) := (blk_cell BK109.out 0).trans rfl; have hcz128_1 : w120.cell? ⟨gb109, 1, none⟩ = some (.int .i64 a3_1) := (blk_cell BK109.out 1).trans rfl; have hcz128_2 : w120.cell? ⟨gb109, 2, none⟩ = some (.int .i64 a3_2) := (blk_cell BK109.out 2).trans rfl; have hfz128_0 := blk_frozen BK109.out 0; have hfz128_1 := blk_frozen BK109.out 1; have hfz128_2 := blk_frozen BK109.out 2))
              have n0_ : Aside0 (((((w120.setCell ⟨gb114, 0, none⟩ (.int .i64 a3_1)).setCell ⟨gb114, 1, none⟩ (.int .i64 a3_0)).setCell ⟨gb114, 2, none⟩ (.int .i64 a0_2)).setCell ⟨gb114, 3, none⟩ (.int .i64 a0_3)).heap[gb108]? = some (.cells #[.int .i64 a0_0, .int .i64 a0_1, .int .i64 a0_2, .int .i64 a0_3] 48 (0, 0))) := ⟨by (with_reducible repeat (first | refine blk_drewN ?_ _ | refine blk_drew ?_ | refine blk_alloc ?_ _)); refine blk_far ?_ NB108_114.out _; (with_reducible repeat (first | refine blk_drewN ?_ _ | refine blk_drew ?_ | refine blk_alloc ?_ _)); refine blk_far ?_ NB108_114.out _; (with_reducible repeat (first | refine blk_drewN ?_ _ | refine blk_drew ?_ | refine blk_alloc ?_ _)); refine blk_far ?_ NB108_114.out _; (with_reducible repeat (first | refine blk_drewN ?_ _ | refine blk_drew ?_ | refine blk_alloc ?_ _)); refine blk_far ?_ NB108_114.out _; (with_reducible repeat (first | refine blk_drewN ?_ _ | refine blk_drew ?_ | refine blk_alloc ?_ _)); exact BK108.out⟩
              have n1_ : Aside0 (((((w120.setCell ⟨gb114, 0, none⟩ (.int .i64 a3_1)).setCell ⟨gb114, 1, none⟩ (.int .i64 a3_0)).setCell ⟨gb114, 2, none⟩ (.int .i64 a0_2)).setCell ⟨gb114, 3, none⟩ (.int .i64 a0_3)).heap[gb109]? = some (.cells #[.int .i64 a3_0, .int .i64 a3_1, .int .i64 a3_2] 34 (0, 0))) := ⟨by (with_reducible repeat (first | refine blk_drewN ?_ _ | refine blk_drew ?_ | refine blk_alloc ?_ _)); refine blk_far ?_ NB109_114.out _; (with_reducible repeat (first | refine blk_drewN ?_ _ | refine blk_drew ?_ | refine blk_alloc ?_ _)); refine blk_far ?_ NB109_114.out _; (with_reducible repeat (first | refine blk_drewN ?_ _ | refine blk_drew ?_ | refine blk_alloc ?_ _)); refine blk_far ?_ NB109_114.out _; (with_reducible repeat (first | refine blk_drewN ?_ _ | refine blk_drew ?_ | refine blk_alloc ?_ _)); refine blk_far ?_ NB109_114.out _; (with_reducible repeat (first | refine blk_drewN ?_ _ | refine blk_drew ?_ | refine blk_alloc ?_ _)); exact BK109.out⟩
              have n2_ : Aside0 (((((w120.setCell ⟨gb114, 0, none⟩ (.int .i64 a3_1)).setCell ⟨gb114, 1, none⟩ (.int .i64 a3_0)).setCell ⟨gb114, 2, none⟩ (.int .i64 a0_2)).setCell ⟨gb114, 3, none⟩ (.int .i64 a0_3)).heap[gb110]? = some (.cells #[.int .i64 0, .int .i64 0, .int .i64 0, .int .i64 0] 48 (0, 0))) := ⟨by (with_reducible repeat (first | refine blk_drewN ?_ _ | refine blk_drew ?_ | refine blk_alloc ?_ _)); refine blk_far ?_ NB110_114.out _; (with_reducible repeat (first | refine blk_drewN ?_ _ | refine blk_drew ?_ | refine blk_alloc ?_ _)); refine blk_far ?_ NB110_114.out _; (with_reducible repeat (first | refine blk_drewN ?_ _ | refine blk_drew ?_ | refine blk_alloc ?_ _)); refine blk_far ?_ NB110_114.out _; (with_reducible repeat (first | refine blk_drewN ?_ _ | refine blk_drew ?_ | refine blk_alloc ?_ _)); refine blk_far ?_ NB110_114.out _; (with_reducible repeat (first | refine blk_drewN ?_ _ | refine blk_drew ?_ | refine blk_alloc ?_ _)); exact BK110.out⟩
              have n3_ : Aside0 (((((w120.setCell ⟨gb114, 0, none⟩ (.int .i64 a3_1)).setCell ⟨gb114, 1, none⟩ (.int .i64 a3_0)).setCell ⟨gb114, 2, none⟩ (.int .i64 a0_2)).setCell ⟨gb114, 3, none⟩ (.int .i64 a0_3)).heap[gb111]? = some (.cells #[.int .i64 0, .bool false, .int .i64 0, .int .i64 0] 36 (0, 0))) := ⟨by (with_reducible repeat (first | refine blk_drewN ?_ _ | refine blk_drew ?_ | refine blk_alloc ?_ _)); refine blk_far ?_ NB111_114.out _; (with_reducible repeat (first | refine blk_drewN ?_ _ | refine blk_drew ?_ | refine blk_alloc ?_ _)); refine blk_far ?_ NB111_114.out _; (with_reducible repeat (first | refine blk_drewN ?_ _ | refine blk_drew ?_ | refine blk_alloc ?_ _)); refine blk_far ?_ NB111_114.out _; (with_reducible repeat (first | refine blk_drewN ?_ _ | refine blk_drew ?_ | refine blk_alloc ?_ _)); refine blk_far ?_ NB111_114.out _; (with_reducible repeat (first | refine blk_drewN ?_ _ | refine blk_drew ?_ | refine blk_alloc ?_ _)); exact BK111.out⟩
              have n4_ : Aside0 (((((w120.setCell ⟨gb114, 0, none⟩ (.int .i64 a3_1)).setCell ⟨gb114, 1, none⟩ (.int .i64 a3_0)).setCell ⟨gb114, 2, none⟩ (.int .i64 a0_2)).setCell ⟨gb114, 3, none⟩ (.int .i64 a0_3)).heap[gb112]? = some (.cells #[.int .i64 0, .bool false, .int .i64 a0_0, .int .i64 a3_2] 36 (0, 0))) := ⟨by (with_reducible repeat (first | refine blk_drewN ?_ _ | refine blk_drew ?_ | refine blk_alloc ?_ _)); refine blk_far ?_ NB112_114.out _; (with_reducible repeat (first | refine blk_drewN ?_ _ | refine blk_drew ?_ | refine blk_alloc ?_ _)); refine blk_far ?_ NB112_114.out _; (with_reducible repeat (first | refine blk_drewN ?_ _ | refine blk_drew ?_ | refine blk_alloc ?_ _)); refine blk_far ?_ NB112_114.out _; (with_reducible repeat (first | refine blk_drewN ?_ _ | refine blk_drew ?_ | refine blk_alloc ?_ _)); refine blk_far ?_ NB112_114.out _; (with_reducible repeat (first | refine blk_drewN ?_ _ | refine blk_drew ?_ | refine blk_alloc ?_ _)); exact BK112.out⟩
              have n5_ : Aside0 (((((w120.setCell ⟨gb114, 0, none⟩ (.int .i64 a3_1)).setCell ⟨gb114, 1, none⟩ (.int .i64 a3_0)).setCell ⟨gb114, 2, none⟩ (.int .i64 a0_2)).setCell ⟨gb114, 3, none⟩ (.int .i64 a0_3)).heap[gb114]? = some (.cells #[.int .i64 a3_1, .int .i64 a3_0, .int .i64 a0_2, .int .i64 a0_3] 48 (0, 0))) := ⟨by (with_reducible repeat (first | refine blk_drewN ?_ _ | refine blk_drew ?_ | refine blk_alloc ?_ _)); refine blk_put (cs := #[.int .i64 a3_1, .int .i64 a3_0, .int .i64 a0_2, .int .i64 0]) ?_ 3 _ rfl; (with_reducible repeat (first | refine blk_drewN ?_ _ | refine blk_drew ?_ | refine blk_alloc ?_ _)); refine blk_put (cs := #[.int .i64 a3_1, .int .i64 a3_0, .int .i64 0, .int .i64 0]) ?_ 2 _ rfl; (with_reducible repeat (first | refine blk_drewN ?_ _ | refine blk_drew ?_ | refine blk_alloc ?_ _)); refine blk_put (cs := #[.int .i64 a3_1, .int .i64 0, .int .i64 0, .int .i64 0]) ?_ 1 _ rfl; (with_reducible repeat (first | refine blk_drewN ?_ _ | refine blk_drew ?_ | refine blk_alloc ?_ _)); refine blk_put (cs := #[.int .i64 0, .int .i64 0, .int .i64 0, .int .i64 0]) ?_ 0 _ rfl; (with_reducible repeat (first | refine blk_drewN ?_ _ | refine blk_drew ?_ | refine blk_alloc ?_ _)); exact BK114.out⟩
              have n6_ : Aside0 (Below w.heap.size w ((((w120.setCell ⟨gb114, 0, none⟩ (.int .i64 a3_1)).setCell ⟨gb114, 1, none⟩ (.int .i64 a3_0)).setCell ⟨gb114, 2, none⟩ (.int .i64 a0_2)).setCell ⟨gb114, 3, none⟩ (.int .i64 a0_3))) := ⟨by repeat (first | (with_reducible first | exact HB.out | apply below_alloc | apply pw_below_drewN | apply below_drew1 | refine below_set ?_ GE108.out | refine below_set ?_ GE109.out | refine below_set ?_ GE110.out | refine below_set ?_ GE111.out | refine below_set ?_ GE112.out | refine below_set ?_ GE114.out) | exact HB.out)⟩
              (try clear BK108)
              (try clear BK109)
              (try clear BK110)
              (try clear BK111)
              (try clear BK112)
              (try clear BK114)
              (try clear HB)
              generalize ((((w120.setCell ⟨gb114, 0, none⟩ (.int .i64 a3_1)).setCell ⟨gb114, 1, none⟩ (.int .i64 a3_0)).setCell ⟨gb114, 2, none⟩ (.int .i64 a0_2)).setCell ⟨gb114, 3, none⟩ (.int .i64 a0_3)) = w129 at n0_ n1_ n2_ n3_ n4_ n5_ n6_ ⊢
              have BK108 := n0_
              have BK109 := n1_
              have BK110 := n2_
              have BK111 := n3_
              have BK112 := n4_
              have BK114 := n5_
              have HB := n6_
              clear n0_ n1_ n2_ n3_ n4_ n5_ n6_
              have n0_ := Aside0.mk (blk_drew BK108.out)
              have n1_ := Aside0.mk (blk_drew BK109.out)
              have n2_ := Aside0.mk (blk_drew BK110.out)
              have n3_ := Aside0.mk (blk_drew BK111.out)
              have n4_ := Aside0.mk (blk_drew BK112.out)
              have n5_ := Aside0.mk (blk_drew BK114.out)
              have n6_ := Aside0.mk (below_drew1 HB.out)
              clear BK108
              clear BK109
              clear BK110
              clear BK111
              clear BK112
              clear BK114
              clear HB
              have BK108 := n0_
              have BK109 := n1_
              have BK110 := n2_
              have BK111 := n3_
              have BK112 := n4_
              have BK114 := n5_
              have HB := n6_
              clear n0_ n1_ n2_ n3_ n4_ n5_ n6_
              refine start_ (n := 4) (S := fun w' => w'.cell? ⟨gb108, 0, none⟩ = some (.int .i64 a0_0) ∧ w'.cell? ⟨gb108, 1, none⟩ = some (.int .i64 a0_1) ∧ w'.cell? ⟨gb108, 2, none⟩ = some (.int .i64 a0_2) ∧ w'.cell? ⟨gb108, 3, none⟩ = some (.int .i64 a0_3) ∧ w'.cell? ⟨gb112, 0, none⟩ = some (.int .i64 0) ∧ w'.cell? ⟨gb112, 1, none⟩ = some (.bool false) ∧ w'.cell? ⟨gb112, 2, none⟩ = some (.int .i64 a0_0) ∧ w'.cell? ⟨gb112, 3, none⟩ = some (.int .i64 a3_2)) (ds := []) #[false, false, false, false] (by kernel_rfl) rfl rfl ⟨(blk_cell BK108.out 0).trans rfl, (blk_cell BK108.out 1).trans rfl, (blk_cell BK108.out 2).trans rfl, (blk_cell BK108.out 3).trans rfl, (blk_cell BK112.out 0).trans rfl, (blk_cell BK112.out 1).trans rfl, (blk_cell BK112.out 2).trans rfl, (blk_cell BK112.out 3).trans rfl⟩ (fun hHeld => ?_)
              generalize w129.drew = w130 at BK108 BK109 BK110 BK111 BK112 BK114 HB hHeld ⊢
              refine take_ (i := 0) (N := some 72) (v := ?_) (a' := ?_) #[true, false, false, false] rfl rfl (by kernel_rfl) (fun _ _ _ h => h) (Or.inl ⟨by rfl, ?_⟩) hHeld ?_ ?_
              rotate_left
              · rintro w' ⟨s0, s1, s2, s3, s4, s5, s6, s7⟩
                go_simp
                with_reducible rfl
              rotate_left
              · simp only [Act.put, List.setIfInBounds_toArray, List.set_cons_zero, List.set_cons_succ, i64_w, i32_w]
                rfl
              refine take_ (i := 1) (N := some 73) (v := ?_) (a' := ?_) #[true, true, false, false] rfl rfl (by kernel_rfl) (fun _ _ _ h => h) (Or.inl ⟨by rfl, ?_⟩) hHeld ?_ ?_
              rotate_left
              · rintro w' ⟨s0, s1, s2, s3, s4, s5, s6, s7⟩
                go_simp
                with_reducible rfl
              rotate_left
              · simp only [Act.put, List.setIfInBounds_toArray, List.set_cons_zero, List.set_cons_succ, i64_w, i32_w]
                rfl
              refine one_ (i := 2) (N := none) #[true, true, true, false] rfl rfl (by kernel_rfl) (by decide) (fun K hK => ?_)
              have hs131 : w130.cell? ⟨gb110, 0, none⟩ = some (.int .i64 0) := (blk_cell BK110.out 0).trans rfl
              have hfs131 := blk_frozen BK110.out 0
              have hns131_0 := NB108_110.out
              have hns131_1 := NB109_110.out
              have hns131_3 := NB111_110.out
              have hns131_4 := NB112_110.out
              have hns131_5 := NB114_110.out
              have hms131_0 := NB110_108.out
              have hms131_1 := NB110_109.out
              have hms131_3 := NB110_111.out
              have hms131_4 := NB110_112.out
              have hms131_5 := NB110_114.out
              have hs132 : w130.cell? ⟨gb110, 1, none⟩ = some (.int .i64 0) := (blk_cell BK110.out 1).trans rfl
              have hfs132 := blk_frozen BK110.out 1
              have hns132_0 := NB108_110.out
              have hns132_1 := NB109_110.out
              have hns132_3 := NB111_110.out
              have hns132_4 := NB112_110.out
              have hns132_5 := NB114_110.out
              have hms132_0 := NB110_108.out
              have hms132_1 := NB110_109.out
              have hms132_3 := NB110_111.out
              have hms132_4 := NB110_112.out
              have hms132_5 := NB110_114.out
              have hs133 : w130.cell? ⟨gb110, 2, none⟩ = some (.int .i64 0) := (blk_cell BK110.out 2).trans rfl
              have hfs133 := blk_frozen BK110.out 2
              have hns133_0 := NB108_110.out
              have hns133_1 := NB109_110.out
              have hns133_3 := NB111_110.out
              have hns133_4 := NB112_110.out
              have hns133_5 := NB114_110.out
              have hms133_0 := NB110_108.out
              have hms133_1 := NB110_109.out
              have hms133_3 := NB110_111.out
              have hms133_4 := NB110_112.out
              have hms133_5 := NB110_114.out
              have hs134 : w130.cell? ⟨gb110, 3, none⟩ = some (.int .i64 0) := (blk_cell BK110.out 3).trans rfl
              have hfs134 := blk_frozen BK110.out 3
              have hns134_0 := NB108_110.out
              have hns134_1 := NB109_110.out
              have hns134_3 := NB111_110.out
              have hns134_4 := NB112_110.out
              have hns134_5 := NB114_110.out
              have hms134_0 := NB110_108.out
              have hms134_1 := NB110_109.out
              have hms134_3 := NB110_111.out
              have hms134_4 := NB110_112.out
              have hms134_5 := NB110_114.out
              refine skip_ (w1 := ?_) (by rfl) rfl ?_ ?_
              rotate_left
              · go_simp
                rfl
              refine hK.out _ _ ⟨((cell_far (p := ⟨gb110, _, none⟩) NB108_110.out _).trans (((cell_far (p := ⟨gb110, _, none⟩) NB108_110.out _).trans (((cell_far (p := ⟨gb110, _, none⟩) NB108_110.out _).trans (((cell_far (p := ⟨gb110, _, none⟩) NB108_110.out _).trans (hHeld.1)))))))), ((cell_far (p := ⟨gb110, _, none⟩) NB108_110.out _).trans (((cell_far (p := ⟨gb110, _, none⟩) NB108_110.out _).trans (((cell_far (p := ⟨gb110, _, none⟩) NB108_110.out _).trans (((cell_far (p := ⟨gb110, _, none⟩) NB108_110.out _).trans (hHeld.2.1)))))))), ((cell_far (p := ⟨gb110, _, none⟩) NB108_110.out _).trans (((cell_far (p := ⟨gb110, _, none⟩) NB108_110.out _).trans (((cell_far (p := ⟨gb110, _, none⟩) NB108_110.out _).trans (((cell_far (p := ⟨gb110, _, none⟩) NB108_110.out _).trans (hHeld.2.2.1)))))))), ((cell_far (p := ⟨gb110, _, none⟩) NB108_110.out _).trans (((cell_far (p := ⟨gb110, _, none⟩) NB108_110.out _).trans (((cell_far (p := ⟨gb110, _, none⟩) NB108_110.out _).trans (((cell_far (p := ⟨gb110, _, none⟩) NB108_110.out _).trans (hHeld.2.2.2.1)))))))), ((cell_far (p := ⟨gb110, _, none⟩) NB112_110.out _).trans (((cell_far (p := ⟨gb110, _, none⟩) NB112_110.out _).trans (((cell_far (p := ⟨gb110, _, none⟩) NB112_110.out _).trans (((cell_far (p := ⟨gb110, _, none⟩) NB112_110.out _).trans (hHeld.2.2.2.2.1)))))))), ((cell_far (p := ⟨gb110, _, none⟩) NB112_110.out _).trans (((cell_far (p := ⟨gb110, _, none⟩) NB112_110.out _).trans (((cell_far (p := ⟨gb110, _, none⟩) NB112_110.out _).trans (((cell_far (p := ⟨gb110, _, none⟩) NB112_110.out _).trans (hHeld.2.2.2.2.2.1)))))))), ((cell_far (p := ⟨gb110, _, none⟩) NB112_110.out _).trans (((cell_far (p := ⟨gb110, _, none⟩) NB112_110.out _).trans (((cell_far (p := ⟨gb110, _, none⟩) NB112_110.out _).trans (((cell_far (p := ⟨gb110, _, none⟩) NB112_110.out _).trans (hHeld.2.2.2.2.2.2.1)))))))), ((cell_far (p := ⟨gb110, _, none⟩) NB112_110.out _).trans (((cell_far (p := ⟨gb110, _, none⟩) NB112_110.out _).trans (((cell_far (p := ⟨gb110, _, none⟩) NB112_110.out _).trans (((cell_far (p := ⟨gb110, _, none⟩) NB112_110.out _).trans (hHeld.2.2.2.2.2.2.2))))))))⟩ (fun hHeld => ?_)
              clear hK K
              refine one_ (i := 3) (N := none) #[true, true, true, true] rfl rfl (by kernel_rfl) (by decide) (fun K hK => ?_)
              have hs135 : w130.cell? ⟨gb111, 0, none⟩ = some (.int .i64 0) := (blk_cell BK111.out 0).trans rfl
              have hfs135 := blk_frozen BK111.out 0
              have hns135_0 := NB108_111.out
              have hns135_1 := NB109_111.out
              have hns135_2 := NB110_111.out
              have hns135_4 := NB112_111.out
              have hns135_5 := NB114_111.out
              have hms135_0 := NB111_108.out
              have hms135_1 := NB111_109.out
              have hms135_2 := NB111_110.out
              have hms135_4 := NB111_112.out
              have hms135_5 := NB111_114.out
              have hs136 : w130.cell? ⟨gb111, 1, none⟩ = some (.bool false) := (blk_cell BK111.out 1).trans rfl
              have hfs136 := blk_frozen BK111.out 1
              have hns136_0 := NB108_111.out
              have hns136_1 := NB109_111.out
              have hns136_2 := NB110_111.out
              have hns136_4 := NB112_111.out
              have hns136_5 := NB114_111.out
              have hms136_0 := NB111_108.out
              have hms136_1 := NB111_109.out
              have hms136_2 := NB111_110.out
              have hms136_4 := NB111_112.out
              have hms136_5 := NB111_114.out
              have hs137 : w130.cell? ⟨gb111, 2, none⟩ = some (.int .i64 0) := (blk_cell BK111.out 2).trans rfl
              have hfs137 := blk_frozen BK111.out 2
              have hns137_0 := NB108_111.out
              have hns137_1 := NB109_111.out
              have hns137_2 := NB110_111.out
              have hns137_4 := NB112_111.out
              have hns137_5 := NB114_111.out
              have hms137_0 := NB111_108.out
              have hms137_1 := NB111_109.out
              have hms137_2 := NB111_110.out
              have hms137_4 := NB111_112.out
              have hms137_5 := NB111_114.out
              have hs138 : w130.cell? ⟨gb111, 3, none⟩ = some (.int .i64 0) := (blk_cell BK111.out 3).trans rfl
              have hfs138 := blk_frozen BK111.out 3
              have hns138_0 := NB108_111.out
              have hns138_1 := NB109_111.out
              have hns138_2 := NB110_111.out
              have hns138_4 := NB112_111.out
              have hns138_5 := NB114_111.out
              have hms138_0 := NB111_108.out
              have hms138_1 := NB111_109.out
              have hms138_2 := NB111_110.out
              have hms138_4 := NB111_112.out
              have hms138_5 := NB111_114.out
              refine skip_ (w1 := ?_) (by rfl) rfl ?_ ?_
              rotate_left
              · go_simp
                rfl
              refine hK.out _ _ ⟨((cell_far (p := ⟨gb111, _, none⟩) NB108_111.out _).trans (((cell_far (p := ⟨gb111, _, none⟩) NB108_111.out _).trans (((cell_far (p := ⟨gb111, _, none⟩) NB108_111.out _).trans (((cell_far (p := ⟨gb111, _, none⟩) NB108_111.out _).trans (hHeld.1)))))))), ((cell_far (p := ⟨gb111, _, none⟩) NB108_111.out _).trans (((cell_far (p := ⟨gb111, _, none⟩) NB108_111.out _).trans (((cell_far (p := ⟨gb111, _, none⟩) NB108_111.out _).trans (((cell_far (p := ⟨gb111, _, none⟩) NB108_111.out _).trans (hHeld.2.1)))))))), ((cell_far (p := ⟨gb111, _, none⟩) NB108_111.out _).trans (((cell_far (p := ⟨gb111, _, none⟩) NB108_111.out _).trans (((cell_far (p := ⟨gb111, _, none⟩) NB108_111.out _).trans (((cell_far (p := ⟨gb111, _, none⟩) NB108_111.out _).trans (hHeld.2.2.1)))))))), ((cell_far (p := ⟨gb111, _, none⟩) NB108_111.out _).trans (((cell_far (p := ⟨gb111, _, none⟩) NB108_111.out _).trans (((cell_far (p := ⟨gb111, _, none⟩) NB108_111.out _).trans (((cell_far (p := ⟨gb111, _, none⟩) NB108_111.out _).trans (hHeld.2.2.2.1)))))))), ((cell_far (p := ⟨gb111, _, none⟩) NB112_111.out _).trans (((cell_far (p := ⟨gb111, _, none⟩) NB112_111.out _).trans (((cell_far (p := ⟨gb111, _, none⟩) NB112_111.out _).trans (((cell_far (p := ⟨gb111, _, none⟩) NB112_111.out _).trans (hHeld.2.2.2.2.1)))))))), ((cell_far (p := ⟨gb111, _, none⟩) NB112_111.out _).trans (((cell_far (p := ⟨gb111, _, none⟩) NB112_111.out _).trans (((cell_far (p := ⟨gb111, _, none⟩) NB112_111.out _).trans (((cell_far (p := ⟨gb111, _, none⟩) NB112_111.out _).trans (hHeld.2.2.2.2.2.1)))))))), ((cell_far (p := ⟨gb111, _, none⟩) NB112_111.out _).trans (((cell_far (p := ⟨gb111, _, none⟩) NB112_111.out _).trans (((cell_far (p := ⟨gb111, _, none⟩) NB112_111.out _).trans (((cell_far (p := ⟨gb111, _, none⟩) NB112_111.out _).trans (hHeld.2.2.2.2.2.2.1)))))))), ((cell_far (p := ⟨gb111, _, none⟩) NB112_111.out _).trans (((cell_far (p := ⟨gb111, _, none⟩) NB112_111.out _).trans (((cell_far (p := ⟨gb111, _, none⟩) NB112_111.out _).trans (((cell_far (p := ⟨gb111, _, none⟩) NB112_111.out _).trans (hHeld.2.2.2.2.2.2.2))))))))⟩ (fun hHeld => ?_)
              clear hK K
              refine done_ (by kernel_rfl) ?_
              try go_wp2
              refine bodyPost_ret (results_cc rfl _ _ gb110 gb111 48 36 #[.int .i64 a0_0, .int .i64 a0_1, .int .i64 a0_2, .int .i64 a0_3] #[.int .i64 0, .bool false, .int .i64 a0_0, .int .i64 a3_2] (0, 0) (0, 0) _ _ rfl (by (with_reducible repeat (first | refine blk_drewN ?_ _ | refine blk_drew ?_ | refine blk_alloc ?_ _)); refine blk_far ?_ NB110_111.out _; (with_reducible repeat (first | refine blk_drewN ?_ _ | refine blk_drew ?_ | refine blk_alloc ?_ _)); refine blk_far ?_ NB110_111.out _; (with_reducible repeat (first | refine blk_drewN ?_ _ | refine blk_drew ?_ | refine blk_alloc ?_ _)); refine blk_far ?_ NB110_111.out _; (with_reducible repeat (first | refine blk_drewN ?_ _ | refine blk_drew ?_ | refine blk_alloc ?_ _)); refine blk_far ?_ NB110_111.out _; (with_reducible repeat (first | refine blk_drewN ?_ _ | refine blk_drew ?_ | refine blk_alloc ?_ _)); refine blk_put (cs := #[.int .i64 a0_0, .int .i64 a0_1, .int .i64 a0_2, .int .i64 0]) ?_ 3 _ rfl; (with_reducible repeat (first | refine blk_drewN ?_ _ | refine blk_drew ?_ | refine blk_alloc ?_ _)); refine blk_put (cs := #[.int .i64 a0_0, .int .i64 a0_1, .int .i64 0, .int .i64 0]) ?_ 2 _ rfl; (with_reducible repeat (first | refine blk_drewN ?_ _ | refine blk_drew ?_ | refine blk_alloc ?_ _)); refine blk_put (cs := #[.int .i64 a0_0, .int .i64 0, .int .i64 0, .int .i64 0]) ?_ 1 _ rfl; (with_reducible repeat (first | refine blk_drewN ?_ _ | refine blk_drew ?_ | refine blk_alloc ?_ _)); refine blk_put (cs := #[.int .i64 0, .int .i64 0, .int .i64 0, .int .i64 0]) ?_ 0 _ rfl; (with_reducible repeat (first | refine blk_drewN ?_ _ | refine blk_drew ?_ | refine blk_alloc ?_ _)); exact BK110.out) Try.underlying48 rfl (by kernel_rfl) rfl (by (with_reducible repeat (first | refine blk_drewN ?_ _ | refine blk_drew ?_ | refine blk_alloc ?_ _)); refine blk_put (cs := #[.int .i64 0, .bool false, .int .i64 a0_0, .int .i64 0]) ?_ 3 _ rfl; (with_reducible repeat (first | refine blk_drewN ?_ _ | refine blk_drew ?_ | refine blk_alloc ?_ _)); refine blk_put (cs := #[.int .i64 0, .bool false, .int .i64 0, .int .i64 0]) ?_ 2 _ rfl; (with_reducible repeat (first | refine blk_drewN ?_ _ | refine blk_drew ?_ | refine blk_alloc ?_ _)); refine blk_put (cs := #[.int .i64 0, .bool false, .int .i64 0, .int .i64 0]) ?_ 1 _ rfl; (with_reducible repeat (first | refine blk_drewN ?_ _ | refine blk_drew ?_ | refine blk_alloc ?_ _)); refine blk_put (cs := #[.int .i64 0, .bool false, .int .i64 0, .int .i64 0]) ?_ 0 _ rfl; (with_reducible repeat (first | refine blk_drewN ?_ _ | refine blk_drew ?_ | refine blk_alloc ?_ _)); refine blk_far ?_ NB111_110.out _; (with_reducible repeat (first | refine blk_drewN ?_ _ | refine blk_drew ?_ | refine blk_alloc ?_ _)); refine blk_far ?_ NB111_110.out _; (with_reducible repeat (first | refine blk_drewN ?_ _ | refine blk_drew ?_ | refine blk_alloc ?_ _)); refine blk_far ?_ NB111_110.out _; (with_reducible repeat (first | refine blk_drewN ?_ _ | refine blk_drew ?_ | refine blk_alloc ?_ _)); refine blk_far ?_ NB111_110.out _; (with_reducible repeat (first | refine blk_drewN ?_ _ | refine blk_drew ?_ | refine blk_alloc ?_ _)); exact BK111.out) Try.underlying36 rfl (by kernel_rfl)) rfl ?_
              exact ⟨by first | rfl | (simp [errW_none, errW_some] <;> rfl) | (simp [*, errW_none, errW_some] <;> rfl), by repeat (first | (with_reducible first | exact HB.out | apply below_alloc | apply pw_below_drewN | apply below_drew1 | refine below_set ?_ GE108.out | refine below_set ?_ GE109.out | refine below_set ?_ GE110.out | refine below_set ?_ GE111.out | refine below_set ?_ GE112.out | refine below_set ?_ GE114.out) | exact HB.out)⟩
            · rw [if_neg c110] at H
              have c110b0 : decide (a3_1 ≤ a0_0) = false := decide_eq_false c110
              clear c110
              simp only [Option.some.injEq, Prod.mk.injEq] at H
              obtain ⟨rfl, rfl, rfl, rfl, rfl, rfl, rfl, rfl⟩ := H
              have hnb139 := NB109_108.out
              have hnc139 := NB108_109.out
              have hnb140 := NB109_110.out
              have hnc140 := NB110_109.out
              have hnb141 := NB109_111.out
              have hnc141 := NB111_109.out
              have hnb142 := NB109_112.out
              have hnc142 := NB112_109.out
              have hcz143_0 : wc.cell? ⟨gb109, 0, none⟩ = some (.int .i64 a3_0) := (blk_cell BK109.out 0).trans rfl
              have hcz143_1 : wc.cell? ⟨gb109, 1, none⟩ = some (.int .i64 a3_1) := (blk_cell BK109.out 1).trans rfl
              have hcz143_2 : wc.cell? ⟨gb109, 2, none⟩ = some (.int .i64 a3_2) := (blk_cell BK109.out 2).trans rfl
              have hfz143_0 := blk_frozen BK109.out 0
              have hfz143_1 := blk_frozen BK109.out 1
              have hfz143_2 := blk_frozen BK109.out 2
              have hnb144 := NB108_110.out
              have hnc144 := NB110_108.out
              have hnb145 := NB108_111.out
              have hnc145 := NB111_108.out
              have hnb146 := NB108_112.out
              have hnc146 := NB112_108.out
              have hcz147_0 : wc.cell? ⟨gb108, 0, none⟩ = some (.int .i64 a0_0) := (blk_cell BK108.out 0).trans rfl
              have hcz147_1 : wc.cell? ⟨gb108, 1, none⟩ = some (.int .i64 a0_1) := (blk_cell BK108.out 1).trans rfl
              have hcz147_2 : wc.cell? ⟨gb108, 2, none⟩ = some (.int .i64 a0_2) := (blk_cell BK108.out 2).trans rfl
              have hcz147_3 : wc.cell? ⟨gb108, 3, none⟩ = some (.int .i64 a0_3) := (blk_cell BK108.out 3).trans rfl
              have hfz147_0 := blk_frozen BK108.out 0
              have hfz147_1 := blk_frozen BK108.out 1
              have hfz147_2 := blk_frozen BK108.out 2
              have hfz147_3 := blk_frozen BK108.out 3
              try go_wp2_with (first | ((with_reducible refine gate_dst (N := 11) rfl ?_); refine box_event ?hg (N := 11) ?hd (cs := #[.int .i64 0, .int .i64 0, .int .i64 0, .int .i64 0]) (t := 48) ?hr ?_; (case hd => rfl); (case hg => rfl); (case hr => first | (go_simp; done) | (go_simp; rfl)); intro gb114 hg w148 hbox hb; have n0_ := Aside0.mk (blk_below (g := gb108) (o := .cells #[.int .i64 a0_0, .int .i64 a0_1, .int .i64 a0_2, .int .i64 a0_3] 48 (0, 0)) (by (with_reducible repeat (first | refine blk_drewN ?_ _ | refine blk_drew ?_ | refine blk_alloc ?_ _)); exact BK108.out) hb); have n1_ := Aside0.mk (blk_below (g := gb109) (o := .cells #[.int .i64 a3_0, .int .i64 a3_1, .int .i64 a3_2] 34 (0, 0)) (by (with_reducible repeat (first | refine blk_drewN ?_ _ | refine blk_drew ?_ | refine blk_alloc ?_ _)); exact BK109.out) hb); have n2_ := Aside0.mk (blk_below (g := gb110) (o := .cells #[.int .i64 0, .int .i64 0, .int .i64 0, .int .i64 0] 48 (0, 0)) (by (with_reducible repeat (first | refine blk_drewN ?_ _ | refine blk_drew ?_ | refine blk_alloc ?_ _)); exact BK110.out) hb); have n3_ := Aside0.mk (blk_below (g := gb111) (o := .cells #[.int .i64 0, .bool false, .int .i64 0, .int .i64 0] 36 (0, 0)) (by (with_reducible repeat (first | refine blk_drewN ?_ _ | refine blk_drew ?_ | refine blk_alloc ?_ _)); exact BK111.out) hb); have n4_ := Aside0.mk (blk_below (g := gb112) (o := .cells #[.int .i64 0, .bool false, .int .i64 a0_0, .int .i64 a3_2] 36 (0, 0)) (by (with_reducible repeat (first | refine blk_drewN ?_ _ | refine blk_drew ?_ | refine blk_alloc ?_ _)); exact BK112.out) hb); have n5_ := Aside0.mk (below_step (by repeat (first | (with_reducible first | exact HB.out | apply below_alloc | apply pw_below_drewN | apply below_drew1 | refine below_set ?_ GE108.out | refine below_set ?_ GE109.out | refine below_set ?_ GE110.out | refine below_set ?_ GE111.out | refine below_set ?_ GE112.out) | exact HB.out)) hb); have n6_ := Aside0.mk (hbox); have n7_ := Aside0.mk ((by rw [hg]; exact (below_size (by repeat (first | (with_reducible first | exact HB.out | apply below_alloc | apply pw_below_drewN | apply below_drew1 | refine below_set ?_ GE108.out | refine below_set ?_ GE109.out | refine below_set ?_ GE110.out | refine below_set ?_ GE111.out | refine below_set ?_ GE112.out) | exact HB.out))) : w.heap.size ≤ gb114)); have n8_ := Aside0.mk ((by rw [hg]; exact (below_size (by repeat (first | (with_reducible first | exact HB.out | apply below_alloc | apply pw_below_drewN | apply below_drew1 | refine below_set ?_ GE108.out | refine below_set ?_ GE109.out | refine below_set ?_ GE110.out | refine below_set ?_ GE111.out | refine below_set ?_ GE112.out) | exact HB.out))) : w.heap.size ≤ gb114)); have n9_ := Aside0.mk ((by rw [hg]; exact Nat.ne_of_lt (blk_lt (g := gb108) (o := .cells #[.int .i64 a0_0, .int .i64 a0_1, .int .i64 a0_2, .int .i64 a0_3] 48 (0, 0)) (by (with_reducible repeat (first | refine blk_drewN ?_ _ | refine blk_drew ?_ | refine blk_alloc ?_ _)); exact BK108.out)) : gb108 ≠ gb114)); have n10_ := Aside0.mk ((by rw [hg]; exact Nat.ne_of_gt (blk_lt (g := gb108) (o := .cells #[.int .i64 a0_0, .int .i64 a0_1, .int .i64 a0_2, .int .i64 a0_3] 48 (0, 0)) (by (with_reducible repeat (first | refine blk_drewN ?_ _ | refine blk_drew ?_ | refine blk_alloc ?_ _)); exact BK108.out)) : gb114 ≠ gb108)); have n11_ := Aside0.mk ((by rw [hg]; exact Nat.ne_of_lt (blk_lt (g := gb109) (o := .cells #[.int .i64 a3_0, .int .i64 a3_1, .int .i64 a3_2] 34 (0, 0)) (by (with_reducible repeat (first | refine blk_drewN ?_ _ | refine blk_drew ?_ | refine blk_alloc ?_ _)); exact BK109.out)) : gb109 ≠ gb114)); have n12_ := Aside0.mk ((by rw [hg]; exact Nat.ne_of_gt (blk_lt (g := gb109) (o := .cells #[.int .i64 a3_0, .int .i64 a3_1, .int .i64 a3_2] 34 (0, 0)) (by (with_reducible repeat (first | refine blk_drewN ?_ _ | refine blk_drew ?_ | refine blk_alloc ?_ _)); exact BK109.out)) : gb114 ≠ gb109)); have n13_ := Aside0.mk ((by rw [hg]; exact Nat.ne_of_lt (blk_lt (g := gb110) (o := .cells #[.int .i64 0, .int .i64 0, .int .i64 0, .int .i64 0] 48 (0, 0)) (by (with_reducible repeat (first | refine blk_drewN ?_ _ | refine blk_drew ?_ | refine blk_alloc ?_ _)); exact BK110.out)) : gb110 ≠ gb114)); have n14_ := Aside0.mk ((by rw [hg]; exact Nat.ne_of_gt (blk_lt (g := gb110) (o := .cells #[.int .i64 0, .int .i64 0, .int .i64 0, .int .i64 0] 48 (0, 0)) (by (with_reducible repeat (first | refine blk_drewN ?_ _ | refine blk_drew ?_ | refine blk_alloc ?_ _)); exact BK110.out)) : gb114 ≠ gb110)); have n15_ := Aside0.mk ((by rw [hg]; exact Nat.ne_of_lt (blk_lt (g := gb111) (o := .cells #[.int .i64 0, .bool false, .int .i64 0, .int .i64 0] 36 (0, 0)) (by (with_reducible repeat (first | refine blk_drewN ?_ _ | refine blk_drew ?_ | refine blk_alloc ?_ _)); exact BK111.out)) : gb111 ≠ gb114)); have n16_ := Aside0.mk ((by rw [hg]; exact Nat.ne_of_gt (blk_lt (g := gb111) (o := .cells #[.int .i64 0, .bool false, .int .i64 0, .int .i64 0] 36 (0, 0)) (by (with_reducible repeat (first | refine blk_drewN ?_ _ | refine blk_drew ?_ | refine blk_alloc ?_ _)); exact BK111.out)) : gb114 ≠ gb111)); have n17_ := Aside0.mk ((by rw [hg]; exact Nat.ne_of_lt (blk_lt (g := gb112) (o := .cells #[.int .i64 0, .bool false, .int .i64 a0_0, .int .i64 a3_2] 36 (0, 0)) (by (with_reducible repeat (first | refine blk_drewN ?_ _ | refine blk_drew ?_ | refine blk_alloc ?_ _)); exact BK112.out)) : gb112 ≠ gb114)); have n18_ := Aside0.mk ((by rw [hg]; exact Nat.ne_of_gt (blk_lt (g := gb112) (o := .cells #[.int .i64 0, .bool false, .int .i64 a0_0, .int .i64 a3_2] 36 (0, 0)) (by (with_reducible repeat (first | refine blk_drewN ?_ _ | refine blk_drew ?_ | refine blk_alloc ?_ _)); exact BK112.out)) : gb114 ≠ gb112)); clear BK108; clear BK109; clear BK110; clear BK111; clear BK112; clear HB; have BK108 := n0_; have BK109 := n1_; have BK110 := n2_; have BK111 := n3_; have BK112 := n4_; have HB := n5_; have BK114 := n6_; have GW114 := n7_; have GE114 := n8_; have NB108_114 := n9_; have NB114_108 := n10_; have NB109_114 := n11_; have NB114_109 := n12_; have NB110_114 := n13_; have NB114_110 := n14_; have NB111_114 := n15_; have NB114_111 := n16_; have NB112_114 := n17_; have NB114_112 := n18_; clear n0_ n1_ n2_ n3_ n4_ n5_ n6_ n7_ n8_ n9_ n10_ n11_ n12_ n13_ n14_ n15_ n16_ n17_ n18_; clear hb hbox hg; have hnb149 := NB114_108.out; have hnc149 := NB108_114.out; have hnb150 := NB114_109.out; have hnc150 := NB109_114.out; have hnb151 := NB114_110.out; have hnc151 := NB110_114.out; have hnb152 := NB114_111.out; have hnc152 := NB111_114.out; have hnb153 := NB114_112.out; have hnc153 := NB112_114.out; have hcz154_0 : w148.cell? ⟨gb114, 0, none⟩ = some (.int .i64 0) := (blk_cell BK114.out 0).trans rfl; have hcz154_1 : w148.cell? ⟨gb114, 1, none⟩ = some (.int .i64 0) := (blk_cell BK114.out 1).trans rfl; have hcz154_2 : w148.cell? ⟨gb114, 2, none⟩ = some (.int .i64 0) := (blk_cell BK114.out 2).trans rfl; have hcz154_3 : w148.cell? ⟨gb114, 3, none⟩ = some (.int .i64 0) := (blk_cell BK114.out 3).trans rfl; have hfz154_0 := blk_frozen BK114.out 0; have hfz154_1 := blk_frozen BK114.out 1; have hfz154_2 := blk_frozen BK114.out 2; have hfz154_3 := blk_frozen BK114.out 3; have hcz155_0 : w148.cell? ⟨gb108, 0, none⟩ = some (.int .i64 a0_0) := (blk_cell BK108.out 0).trans rfl; have hcz155_1 : w148.cell? ⟨gb108, 1, none⟩ = some (.int .i64 a0_1) := (blk_cell BK108.out 1).trans rfl; have hcz155_2 : w148.cell? ⟨gb108, 2, none⟩ = some (.int .i64 a0_2) := (blk_cell BK108.out 2).trans rfl; have hcz155_3 : w148.cell? ⟨gb108, 3, none⟩ = some (.int .i64 a0_3) := (blk_cell BK108.out 3).trans rfl; have hfz155_0 := blk_frozen BK108.out 0; have hfz155_1 := blk_frozen BK108.out 1; have hfz155_2 := blk_frozen BK108.out 2; have hfz155_3 := blk_frozen BK108.out 3; have hcz156_0 : w148.cell? ⟨gb109, 0, none⟩ = some (.int .i64 a3_0) := (blk_cell BK109.out 0).trans rfl; have hcz156_1 : w148.cell? ⟨gb109, 1, none⟩ = some (.int .i64 a3_1) := (blk_cell BK109.out 1).trans rfl; have hcz156_2 : w148.cell? ⟨gb109, 2, none⟩ = some (.int .i64 a3_2) := (blk_cell BK109.out 2).trans rfl; have hfz156_0 := blk_frozen BK109.out 0; have hfz156_1 := blk_frozen BK109.out 1; have hfz156_2 := blk_frozen BK109.out 2))
              have n0_ : Aside0 (((((((w148.setCell ⟨gb114, 0, none⟩ (.int .i64 a3_1)).setCell ⟨gb114, 1, none⟩ (.int .i64 a3_0)).setCell ⟨gb114, 2, none⟩ (.int .i64 a0_2)).setCell ⟨gb114, 3, none⟩ (.int .i64 a0_3)).setCell ⟨gb114, 3, none⟩ (.int .i64 a3_2)).setCell ⟨gb114, 2, none⟩ (.int .i64 (wrap64 (a1 + a2)))).heap[gb108]? = some (.cells #[.int .i64 a0_0, .int .i64 a0_1, .int .i64 a0_2, .int .i64 a0_3] 48 (0, 0))) := ⟨by (with_reducible repeat (first | refine blk_drewN ?_ _ | refine blk_drew ?_ | refine blk_alloc ?_ _)); refine blk_far ?_ NB108_114.out _; (with_reducible repeat (first | refine blk_drewN ?_ _ | refine blk_drew ?_ | refine blk_alloc ?_ _)); refine blk_far ?_ NB108_114.out _; (with_reducible repeat (first | refine blk_drewN ?_ _ | refine blk_drew ?_ | refine blk_alloc ?_ _)); refine blk_far ?_ NB108_114.out _; (with_reducible repeat (first | refine blk_drewN ?_ _ | refine blk_drew ?_ | refine blk_alloc ?_ _)); refine blk_far ?_ NB108_114.out _; (with_reducible repeat (first | refine blk_drewN ?_ _ | refine blk_drew ?_ | refine blk_alloc ?_ _)); refine blk_far ?_ NB108_114.out _; (with_reducible repeat (first | refine blk_drewN ?_ _ | refine blk_drew ?_ | refine blk_alloc ?_ _)); refine blk_far ?_ NB108_114.out _; (with_reducible repeat (first | refine blk_drewN ?_ _ | refine blk_drew ?_ | refine blk_alloc ?_ _)); exact BK108.out⟩
              have n1_ : Aside0 (((((((w148.setCell ⟨gb114, 0, none⟩ (.int .i64 a3_1)).setCell ⟨gb114, 1, none⟩ (.int .i64 a3_0)).setCell ⟨gb114, 2, none⟩ (.int .i64 a0_2)).setCell ⟨gb114, 3, none⟩ (.int .i64 a0_3)).setCell ⟨gb114, 3, none⟩ (.int .i64 a3_2)).setCell ⟨gb114, 2, none⟩ (.int .i64 (wrap64 (a1 + a2)))).heap[gb109]? = some (.cells #[.int .i64 a3_0, .int .i64 a3_1, .int .i64 a3_2] 34 (0, 0))) := ⟨by (with_reducible repeat (first | refine blk_drewN ?_ _ | refine blk_drew ?_ | refine blk_alloc ?_ _)); refine blk_far ?_ NB109_114.out _; (with_reducible repeat (first | refine blk_drewN ?_ _ | refine blk_drew ?_ | refine blk_alloc ?_ _)); refine blk_far ?_ NB109_114.out _; (with_reducible repeat (first | refine blk_drewN ?_ _ | refine blk_drew ?_ | refine blk_alloc ?_ _)); refine blk_far ?_ NB109_114.out _; (with_reducible repeat (first | refine blk_drewN ?_ _ | refine blk_drew ?_ | refine blk_alloc ?_ _)); refine blk_far ?_ NB109_114.out _; (with_reducible repeat (first | refine blk_drewN ?_ _ | refine blk_drew ?_ | refine blk_alloc ?_ _)); refine blk_far ?_ NB109_114.out _; (with_reducible repeat (first | refine blk_drewN ?_ _ | refine blk_drew ?_ | refine blk_alloc ?_ _)); refine blk_far ?_ NB109_114.out _; (with_reducible repeat (first | refine blk_drewN ?_ _ | refine blk_drew ?_ | refine blk_alloc ?_ _)); exact BK109.out⟩
              have n2_ : Aside0 (((((((w148.setCell ⟨gb114, 0, none⟩ (.int .i64 a3_1)).setCell ⟨gb114, 1, none⟩ (.int .i64 a3_0)).setCell ⟨gb114, 2, none⟩ (.int .i64 a0_2)).setCell ⟨gb114, 3, none⟩ (.int .i64 a0_3)).setCell ⟨gb114, 3, none⟩ (.int .i64 a3_2)).setCell ⟨gb114, 2, none⟩ (.int .i64 (wrap64 (a1 + a2)))).heap[gb110]? = some (.cells #[.int .i64 0, .int .i64 0, .int .i64 0, .int .i64 0] 48 (0, 0))) := ⟨by (with_reducible repeat (first | refine blk_drewN ?_ _ | refine blk_drew ?_ | refine blk_alloc ?_ _)); refine blk_far ?_ NB110_114.out _; (with_reducible repeat (first | refine blk_drewN ?_ _ | refine blk_drew ?_ | refine blk_alloc ?_ _)); refine blk_far ?_ NB110_114.out _; (with_reducible repeat (first | refine blk_drewN ?_ _ | refine blk_drew ?_ | refine blk_alloc ?_ _)); refine blk_far ?_ NB110_114.out _; (with_reducible repeat (first | refine blk_drewN ?_ _ | refine blk_drew ?_ | refine blk_alloc ?_ _)); refine blk_far ?_ NB110_114.out _; (with_reducible repeat (first | refine blk_drewN ?_ _ | refine blk_drew ?_ | refine blk_alloc ?_ _)); refine blk_far ?_ NB110_114.out _; (with_reducible repeat (first | refine blk_drewN ?_ _ | refine blk_drew ?_ | refine blk_alloc ?_ _)); refine blk_far ?_ NB110_114.out _; (with_reducible repeat (first | refine blk_drewN ?_ _ | refine blk_drew ?_ | refine blk_alloc ?_ _)); exact BK110.out⟩
              have n3_ : Aside0 (((((((w148.setCell ⟨gb114, 0, none⟩ (.int .i64 a3_1)).setCell ⟨gb114, 1, none⟩ (.int .i64 a3_0)).setCell ⟨gb114, 2, none⟩ (.int .i64 a0_2)).setCell ⟨gb114, 3, none⟩ (.int .i64 a0_3)).setCell ⟨gb114, 3, none⟩ (.int .i64 a3_2)).setCell ⟨gb114, 2, none⟩ (.int .i64 (wrap64 (a1 + a2)))).heap[gb111]? = some (.cells #[.int .i64 0, .bool false, .int .i64 0, .int .i64 0] 36 (0, 0))) := ⟨by (with_reducible repeat (first | refine blk_drewN ?_ _ | refine blk_drew ?_ | refine blk_alloc ?_ _)); refine blk_far ?_ NB111_114.out _; (with_reducible repeat (first | refine blk_drewN ?_ _ | refine blk_drew ?_ | refine blk_alloc ?_ _)); refine blk_far ?_ NB111_114.out _; (with_reducible repeat (first | refine blk_drewN ?_ _ | refine blk_drew ?_ | refine blk_alloc ?_ _)); refine blk_far ?_ NB111_114.out _; (with_reducible repeat (first | refine blk_drewN ?_ _ | refine blk_drew ?_ | refine blk_alloc ?_ _)); refine blk_far ?_ NB111_114.out _; (with_reducible repeat (first | refine blk_drewN ?_ _ | refine blk_drew ?_ | refine blk_alloc ?_ _)); refine blk_far ?_ NB111_114.out _; (with_reducible repeat (first | refine blk_drewN ?_ _ | refine blk_drew ?_ | refine blk_alloc ?_ _)); refine blk_far ?_ NB111_114.out _; (with_reducible repeat (first | refine blk_drewN ?_ _ | refine blk_drew ?_ | refine blk_alloc ?_ _)); exact BK111.out⟩
              have n4_ : Aside0 (((((((w148.setCell ⟨gb114, 0, none⟩ (.int .i64 a3_1)).setCell ⟨gb114, 1, none⟩ (.int .i64 a3_0)).setCell ⟨gb114, 2, none⟩ (.int .i64 a0_2)).setCell ⟨gb114, 3, none⟩ (.int .i64 a0_3)).setCell ⟨gb114, 3, none⟩ (.int .i64 a3_2)).setCell ⟨gb114, 2, none⟩ (.int .i64 (wrap64 (a1 + a2)))).heap[gb112]? = some (.cells #[.int .i64 0, .bool false, .int .i64 a0_0, .int .i64 a3_2] 36 (0, 0))) := ⟨by (with_reducible repeat (first | refine blk_drewN ?_ _ | refine blk_drew ?_ | refine blk_alloc ?_ _)); refine blk_far ?_ NB112_114.out _; (with_reducible repeat (first | refine blk_drewN ?_ _ | refine blk_drew ?_ | refine blk_alloc ?_ _)); refine blk_far ?_ NB112_114.out _; (with_reducible repeat (first | refine blk_drewN ?_ _ | refine blk_drew ?_ | refine blk_alloc ?_ _)); refine blk_far ?_ NB112_114.out _; (with_reducible repeat (first | refine blk_drewN ?_ _ | refine blk_drew ?_ | refine blk_alloc ?_ _)); refine blk_far ?_ NB112_114.out _; (with_reducible repeat (first | refine blk_drewN ?_ _ | refine blk_drew ?_ | refine blk_alloc ?_ _)); refine blk_far ?_ NB112_114.out _; (with_reducible repeat (first | refine blk_drewN ?_ _ | refine blk_drew ?_ | refine blk_alloc ?_ _)); refine blk_far ?_ NB112_114.out _; (with_reducible repeat (first | refine blk_drewN ?_ _ | refine blk_drew ?_ | refine blk_alloc ?_ _)); exact BK112.out⟩
              have n5_ : Aside0 (((((((w148.setCell ⟨gb114, 0, none⟩ (.int .i64 a3_1)).setCell ⟨gb114, 1, none⟩ (.int .i64 a3_0)).setCell ⟨gb114, 2, none⟩ (.int .i64 a0_2)).setCell ⟨gb114, 3, none⟩ (.int .i64 a0_3)).setCell ⟨gb114, 3, none⟩ (.int .i64 a3_2)).setCell ⟨gb114, 2, none⟩ (.int .i64 (wrap64 (a1 + a2)))).heap[gb114]? = some (.cells #[.int .i64 a3_1, .int .i64 a3_0, .int .i64 (wrap64 (a1 + a2)), .int .i64 a3_2] 48 (0, 0))) := ⟨by (with_reducible repeat (first | refine blk_drewN ?_ _ | refine blk_drew ?_ | refine blk_alloc ?_ _)); refine blk_put (cs := #[.int .i64 a3_1, .int .i64 a3_0, .int .i64 a0_2, .int .i64 a3_2]) ?_ 2 _ rfl; (with_reducible repeat (first | refine blk_drewN ?_ _ | refine blk_drew ?_ | refine blk_alloc ?_ _)); refine blk_put (cs := #[.int .i64 a3_1, .int .i64 a3_0, .int .i64 a0_2, .int .i64 a0_3]) ?_ 3 _ rfl; (with_reducible repeat (first | refine blk_drewN ?_ _ | refine blk_drew ?_ | refine blk_alloc ?_ _)); refine blk_put (cs := #[.int .i64 a3_1, .int .i64 a3_0, .int .i64 a0_2, .int .i64 0]) ?_ 3 _ rfl; (with_reducible repeat (first | refine blk_drewN ?_ _ | refine blk_drew ?_ | refine blk_alloc ?_ _)); refine blk_put (cs := #[.int .i64 a3_1, .int .i64 a3_0, .int .i64 0, .int .i64 0]) ?_ 2 _ rfl; (with_reducible repeat (first | refine blk_drewN ?_ _ | refine blk_drew ?_ | refine blk_alloc ?_ _)); refine blk_put (cs := #[.int .i64 a3_1, .int .i64 0, .int .i64 0, .int .i64 0]) ?_ 1 _ rfl; (with_reducible repeat (first | refine blk_drewN ?_ _ | refine blk_drew ?_ | refine blk_alloc ?_ _)); refine blk_put (cs := #[.int .i64 0, .int .i64 0, .int .i64 0, .int .i64 0]) ?_ 0 _ rfl; (with_reducible repeat (first | refine blk_drewN ?_ _ | refine blk_drew ?_ | refine blk_alloc ?_ _)); exact BK114.out⟩
              have n6_ : Aside0 (Below w.heap.size w ((((((w148.setCell ⟨gb114, 0, none⟩ (.int .i64 a3_1)).setCell ⟨gb114, 1, none⟩ (.int .i64 a3_0)).setCell ⟨gb114, 2, none⟩ (.int .i64 a0_2)).setCell ⟨gb114, 3, none⟩ (.int .i64 a0_3)).setCell ⟨gb114, 3, none⟩ (.int .i64 a3_2)).setCell ⟨gb114, 2, none⟩ (.int .i64 (wrap64 (a1 + a2))))) := ⟨by repeat (first | (with_reducible first | exact HB.out | apply below_alloc | apply pw_below_drewN | apply below_drew1 | refine below_set ?_ GE108.out | refine below_set ?_ GE109.out | refine below_set ?_ GE110.out | refine below_set ?_ GE111.out | refine below_set ?_ GE112.out | refine below_set ?_ GE114.out) | exact HB.out)⟩
              (try clear BK108)
              (try clear BK109)
              (try clear BK110)
              (try clear BK111)
              (try clear BK112)
              (try clear BK114)
              (try clear HB)
              generalize ((((((w148.setCell ⟨gb114, 0, none⟩ (.int .i64 a3_1)).setCell ⟨gb114, 1, none⟩ (.int .i64 a3_0)).setCell ⟨gb114, 2, none⟩ (.int .i64 a0_2)).setCell ⟨gb114, 3, none⟩ (.int .i64 a0_3)).setCell ⟨gb114, 3, none⟩ (.int .i64 a3_2)).setCell ⟨gb114, 2, none⟩ (.int .i64 (wrap64 (a1 + a2)))) = w157 at n0_ n1_ n2_ n3_ n4_ n5_ n6_ ⊢
              have BK108 := n0_
              have BK109 := n1_
              have BK110 := n2_
              have BK111 := n3_
              have BK112 := n4_
              have BK114 := n5_
              have HB := n6_
              clear n0_ n1_ n2_ n3_ n4_ n5_ n6_
              have n0_ := Aside0.mk (blk_drew BK108.out)
              have n1_ := Aside0.mk (blk_drew BK109.out)
              have n2_ := Aside0.mk (blk_drew BK110.out)
              have n3_ := Aside0.mk (blk_drew BK111.out)
              have n4_ := Aside0.mk (blk_drew BK112.out)
              have n5_ := Aside0.mk (blk_drew BK114.out)
              have n6_ := Aside0.mk (below_drew1 HB.out)
              clear BK108
              clear BK109
              clear BK110
              clear BK111
              clear BK112
              clear BK114
              clear HB
              have BK108 := n0_
              have BK109 := n1_
              have BK110 := n2_
              have BK111 := n3_
              have BK112 := n4_
              have BK114 := n5_
              have HB := n6_
              clear n0_ n1_ n2_ n3_ n4_ n5_ n6_
              refine start_ (n := 8) (S := fun w' => w'.cell? ⟨gb114, 0, none⟩ = some (.int .i64 a3_1) ∧ w'.cell? ⟨gb114, 1, none⟩ = some (.int .i64 a3_0) ∧ w'.cell? ⟨gb114, 2, none⟩ = some (.int .i64 (wrap64 (a1 + a2))) ∧ w'.cell? ⟨gb114, 3, none⟩ = some (.int .i64 a3_2) ∧ w'.cell? ⟨gb109, 0, none⟩ = some (.int .i64 a3_0) ∧ w'.cell? ⟨gb109, 1, none⟩ = some (.int .i64 a3_1) ∧ w'.cell? ⟨gb109, 2, none⟩ = some (.int .i64 a3_2)) (ds := []) #[false, false, false, false, false, false, false, false] (by kernel_rfl) rfl rfl ⟨(blk_cell BK114.out 0).trans rfl, (blk_cell BK114.out 1).trans rfl, (blk_cell BK114.out 2).trans rfl, (blk_cell BK114.out 3).trans rfl, (blk_cell BK109.out 0).trans rfl, (blk_cell BK109.out 1).trans rfl, (blk_cell BK109.out 2).trans rfl⟩ (fun hHeld => ?_); refine with_tabW ballot_Hear.tab11 ballot_Hear.bits11 (fun HT_ HW_ => ?_)
              generalize w157.drew = w158 at BK108 BK109 BK110 BK111 BK112 BK114 HB hHeld ⊢
              refine pure_ (i := 1) (N := some 79) (v := ?_) (a' := ?_) #[false, true, false, false, false, false, false, false] rfl rfl (any_of HT_.out (by kernel_rfl)) (fun _ _ _ h => h) (Or.inl ⟨by rfl, ?_⟩) ?_ ?_
              rotate_left
              · intro w'
                go_simp
                with_reducible rfl
              rotate_left
              · simp only [Act.put, List.setIfInBounds_toArray, List.set_cons_zero, List.set_cons_succ, i64_w, i32_w]
                rfl
              refine pure_ (i := 3) (N := some 81) (v := ?_) (a' := ?_) #[false, true, false, true, false, false, false, false] rfl rfl (any_of HT_.out (by kernel_rfl)) (fun _ _ _ h => h) (Or.inl ⟨by rfl, ?_⟩) ?_ ?_
              rotate_left
              · intro w'
                go_simp
                with_reducible rfl
              rotate_left
              · simp only [Act.put, List.setIfInBounds_toArray, List.set_cons_zero, List.set_cons_succ, i64_w, i32_w]
                rfl
              refine take_ (i := 0) (N := some 78) (v := ?_) (a' := ?_) #[true, true, false, true, false, false, false, false] rfl rfl (take_ofW HT_.out HW_.out (by kernel_rfl)) (fun _ _ _ h => h) (Or.inl ⟨by rfl, ?_⟩) hHeld ?_ ?_
              rotate_left
              · rintro w' ⟨s0, s1, s2, s3, s4, s5, s6⟩
                go_simp
                with_reducible rfl
              rotate_left
              · simp only [Act.put, List.setIfInBounds_toArray, List.set_cons_zero, List.set_cons_succ, i64_w, i32_w]
                rfl
              refine take_ (i := 2) (N := some 80) (v := ?_) (a' := ?_) #[true, true, true, true, false, false, false, false] rfl rfl (take_ofW HT_.out HW_.out (by kernel_rfl)) (fun _ _ _ h => h) (Or.inl ⟨by rfl, ?_⟩) hHeld ?_ ?_
              rotate_left
              · rintro w' ⟨s0, s1, s2, s3, s4, s5, s6⟩
                go_simp
                with_reducible rfl
              rotate_left
              · simp only [Act.put, List.setIfInBounds_toArray, List.set_cons_zero, List.set_cons_succ, i64_w, i32_w]
                rfl
              refine take_ (i := 4) (N := some 82) (v := ?_) (a' := ?_) #[true, true, true, true, true, false, false, false] rfl rfl (take_ofW HT_.out HW_.out (by kernel_rfl)) (fun _ _ _ h => h) (Or.inl ⟨by rfl, ?_⟩) hHeld ?_ ?_
              rotate_left
              · rintro w' ⟨s0, s1, s2, s3, s4, s5, s6⟩
                go_simp
                with_reducible rfl
              rotate_left
              · simp only [Act.put, List.setIfInBounds_toArray, List.set_cons_zero, List.set_cons_succ, i64_w, i32_w]
                rfl
              refine pure_ (i := 5) (N := some 83) (v := ?_) (a' := ?_) #[true, true, true, true, true, true, false, false] rfl rfl (any_of HT_.out (by kernel_rfl)) (fun _ _ _ h => h) (Or.inl ⟨by rfl, ?_⟩) ?_ ?_
              rotate_left
              · intro w'
                go_simp
                with_reducible rfl
              rotate_left
              · simp only [Act.put, List.setIfInBounds_toArray, List.set_cons_zero, List.set_cons_succ, i64_w, i32_w]
                rfl
              refine one_ (i := 6) (N := none) #[true, true, true, true, true, true, true, false] rfl rfl (one_of HT_.out (by kernel_rfl)) (by decide) (fun K hK => ?_)
              have hs159 : w158.cell? ⟨gb110, 0, none⟩ = some (.int .i64 0) := (blk_cell BK110.out 0).trans rfl
              have hfs159 := blk_frozen BK110.out 0
              have hns159_0 := NB108_110.out
              have hns159_1 := NB109_110.out
              have hns159_3 := NB111_110.out
              have hns159_4 := NB112_110.out
              have hns159_5 := NB114_110.out
              have hms159_0 := NB110_108.out
              have hms159_1 := NB110_109.out
              have hms159_3 := NB110_111.out
              have hms159_4 := NB110_112.out
              have hms159_5 := NB110_114.out
              have hs160 : w158.cell? ⟨gb110, 1, none⟩ = some (.int .i64 0) := (blk_cell BK110.out 1).trans rfl
              have hfs160 := blk_frozen BK110.out 1
              have hns160_0 := NB108_110.out
              have hns160_1 := NB109_110.out
              have hns160_3 := NB111_110.out
              have hns160_4 := NB112_110.out
              have hns160_5 := NB114_110.out
              have hms160_0 := NB110_108.out
              have hms160_1 := NB110_109.out
              have hms160_3 := NB110_111.out
              have hms160_4 := NB110_112.out
              have hms160_5 := NB110_114.out
              have hs161 : w158.cell? ⟨gb110, 2, none⟩ = some (.int .i64 0) := (blk_cell BK110.out 2).trans rfl
              have hfs161 := blk_frozen BK110.out 2
              have hns161_0 := NB108_110.out
              have hns161_1 := NB109_110.out
              have hns161_3 := NB111_110.out
              have hns161_4 := NB112_110.out
              have hns161_5 := NB114_110.out
              have hms161_0 := NB110_108.out
              have hms161_1 := NB110_109.out
              have hms161_3 := NB110_111.out
              have hms161_4 := NB110_112.out
              have hms161_5 := NB110_114.out
              have hs162 : w158.cell? ⟨gb110, 3, none⟩ = some (.int .i64 0) := (blk_cell BK110.out 3).trans rfl
              have hfs162 := blk_frozen BK110.out 3
              have hns162_0 := NB108_110.out
              have hns162_1 := NB109_110.out
              have hns162_3 := NB111_110.out
              have hns162_4 := NB112_110.out
              have hns162_5 := NB114_110.out
              have hms162_0 := NB110_108.out
              have hms162_1 := NB110_109.out
              have hms162_3 := NB110_111.out
              have hms162_4 := NB110_112.out
              have hms162_5 := NB110_114.out
              refine skip_ (w1 := ?_) (by rfl) rfl ?_ ?_
              rotate_left
              · go_simp
                rfl
              refine hK.out _ _ ⟨((cell_far (p := ⟨gb110, _, none⟩) NB114_110.out _).trans (((cell_far (p := ⟨gb110, _, none⟩) NB114_110.out _).trans (((cell_far (p := ⟨gb110, _, none⟩) NB114_110.out _).trans (((cell_far (p := ⟨gb110, _, none⟩) NB114_110.out _).trans (hHeld.1)))))))), ((cell_far (p := ⟨gb110, _, none⟩) NB114_110.out _).trans (((cell_far (p := ⟨gb110, _, none⟩) NB114_110.out _).trans (((cell_far (p := ⟨gb110, _, none⟩) NB114_110.out _).trans (((cell_far (p := ⟨gb110, _, none⟩) NB114_110.out _).trans (hHeld.2.1)))))))), ((cell_far (p := ⟨gb110, _, none⟩) NB114_110.out _).trans (((cell_far (p := ⟨gb110, _, none⟩) NB114_110.out _).trans (((cell_far (p := ⟨gb110, _, none⟩) NB114_110.out _).trans (((cell_far (p := ⟨gb110, _, none⟩) NB114_110.out _).trans (hHeld.2.2.1)))))))), ((cell_far (p := ⟨gb110, _, none⟩) NB114_110.out _).trans (((cell_far (p := ⟨gb110, _, none⟩) NB114_110.out _).trans (((cell_far (p := ⟨gb110, _, none⟩) NB114_110.out _).trans (((cell_far (p := ⟨gb110, _, none⟩) NB114_110.out _).trans (hHeld.2.2.2.1)))))))), ((cell_far (p := ⟨gb110, _, none⟩) NB109_110.out _).trans (((cell_far (p := ⟨gb110, _, none⟩) NB109_110.out _).trans (((cell_far (p := ⟨gb110, _, none⟩) NB109_110.out _).trans (((cell_far (p := ⟨gb110, _, none⟩) NB109_110.out _).trans (hHeld.2.2.2.2.1)))))))), ((cell_far (p := ⟨gb110, _, none⟩) NB109_110.out _).trans (((cell_far (p := ⟨gb110, _, none⟩) NB109_110.out _).trans (((cell_far (p := ⟨gb110, _, none⟩) NB109_110.out _).trans (((cell_far (p := ⟨gb110, _, none⟩) NB109_110.out _).trans (hHeld.2.2.2.2.2.1)))))))), ((cell_far (p := ⟨gb110, _, none⟩) NB109_110.out _).trans (((cell_far (p := ⟨gb110, _, none⟩) NB109_110.out _).trans (((cell_far (p := ⟨gb110, _, none⟩) NB109_110.out _).trans (((cell_far (p := ⟨gb110, _, none⟩) NB109_110.out _).trans (hHeld.2.2.2.2.2.2))))))))⟩ (fun hHeld => ?_)
              clear hK K
              refine one_ (i := 7) (N := none) #[true, true, true, true, true, true, true, true] rfl rfl (one_of HT_.out (by kernel_rfl)) (by decide) (fun K hK => ?_)
              have hs163 : w158.cell? ⟨gb111, 0, none⟩ = some (.int .i64 0) := (blk_cell BK111.out 0).trans rfl
              have hfs163 := blk_frozen BK111.out 0
              have hns163_0 := NB108_111.out
              have hns163_1 := NB109_111.out
              have hns163_2 := NB110_111.out
              have hns163_4 := NB112_111.out
              have hns163_5 := NB114_111.out
              have hms163_0 := NB111_108.out
              have hms163_1 := NB111_109.out
              have hms163_2 := NB111_110.out
              have hms163_4 := NB111_112.out
              have hms163_5 := NB111_114.out
              have hs164 : w158.cell? ⟨gb111, 1, none⟩ = some (.bool false) := (blk_cell BK111.out 1).trans rfl
              have hfs164 := blk_frozen BK111.out 1
              have hns164_0 := NB108_111.out
              have hns164_1 := NB109_111.out
              have hns164_2 := NB110_111.out
              have hns164_4 := NB112_111.out
              have hns164_5 := NB114_111.out
              have hms164_0 := NB111_108.out
              have hms164_1 := NB111_109.out
              have hms164_2 := NB111_110.out
              have hms164_4 := NB111_112.out
              have hms164_5 := NB111_114.out
              have hs165 : w158.cell? ⟨gb111, 2, none⟩ = some (.int .i64 0) := (blk_cell BK111.out 2).trans rfl
              have hfs165 := blk_frozen BK111.out 2
              have hns165_0 := NB108_111.out
              have hns165_1 := NB109_111.out
              have hns165_2 := NB110_111.out
              have hns165_4 := NB112_111.out
              have hns165_5 := NB114_111.out
              have hms165_0 := NB111_108.out
              have hms165_1 := NB111_109.out
              have hms165_2 := NB111_110.out
              have hms165_4 := NB111_112.out
              have hms165_5 := NB111_114.out
              have hs166 : w158.cell? ⟨gb111, 3, none⟩ = some (.int .i64 0) := (blk_cell BK111.out 3).trans rfl
              have hfs166 := blk_frozen BK111.out 3
              have hns166_0 := NB108_111.out
              have hns166_1 := NB109_111.out
              have hns166_2 := NB110_111.out
              have hns166_4 := NB112_111.out
              have hns166_5 := NB114_111.out
              have hms166_0 := NB111_108.out
              have hms166_1 := NB111_109.out
              have hms166_2 := NB111_110.out
              have hms166_4 := NB111_112.out
              have hms166_5 := NB111_114.out
              refine skip_ (w1 := ?_) (by rfl) rfl ?_ ?_
              rotate_left
              · go_simp
                rfl
              refine hK.out _ _ ⟨((cell_far (p := ⟨gb111, _, none⟩) NB114_111.out _).trans (((cell_far (p := ⟨gb111, _, none⟩) NB114_111.out _).trans (((cell_far (p := ⟨gb111, _, none⟩) NB114_111.out _).trans (((cell_far (p := ⟨gb111, _, none⟩) NB114_111.out _).trans (hHeld.1)))))))), ((cell_far (p := ⟨gb111, _, none⟩) NB114_111.out _).trans (((cell_far (p := ⟨gb111, _, none⟩) NB114_111.out _).trans (((cell_far (p := ⟨gb111, _, none⟩) NB114_111.out _).trans (((cell_far (p := ⟨gb111, _, none⟩) NB114_111.out _).trans (hHeld.2.1)))))))), ((cell_far (p := ⟨gb111, _, none⟩) NB114_111.out _).trans (((cell_far (p := ⟨gb111, _, none⟩) NB114_111.out _).trans (((cell_far (p := ⟨gb111, _, none⟩) NB114_111.out _).trans (((cell_far (p := ⟨gb111, _, none⟩) NB114_111.out _).trans (hHeld.2.2.1)))))))), ((cell_far (p := ⟨gb111, _, none⟩) NB114_111.out _).trans (((cell_far (p := ⟨gb111, _, none⟩) NB114_111.out _).trans (((cell_far (p := ⟨gb111, _, none⟩) NB114_111.out _).trans (((cell_far (p := ⟨gb111, _, none⟩) NB114_111.out _).trans (hHeld.2.2.2.1)))))))), ((cell_far (p := ⟨gb111, _, none⟩) NB109_111.out _).trans (((cell_far (p := ⟨gb111, _, none⟩) NB109_111.out _).trans (((cell_far (p := ⟨gb111, _, none⟩) NB109_111.out _).trans (((cell_far (p := ⟨gb111, _, none⟩) NB109_111.out _).trans (hHeld.2.2.2.2.1)))))))), ((cell_far (p := ⟨gb111, _, none⟩) NB109_111.out _).trans (((cell_far (p := ⟨gb111, _, none⟩) NB109_111.out _).trans (((cell_far (p := ⟨gb111, _, none⟩) NB109_111.out _).trans (((cell_far (p := ⟨gb111, _, none⟩) NB109_111.out _).trans (hHeld.2.2.2.2.2.1)))))))), ((cell_far (p := ⟨gb111, _, none⟩) NB109_111.out _).trans (((cell_far (p := ⟨gb111, _, none⟩) NB109_111.out _).trans (((cell_far (p := ⟨gb111, _, none⟩) NB109_111.out _).trans (((cell_far (p := ⟨gb111, _, none⟩) NB109_111.out _).trans (hHeld.2.2.2.2.2.2))))))))⟩ (fun hHeld => ?_)
              clear hK K
              refine done_ (done_of HT_.out (by kernel_rfl)) ?_
              try go_wp2
              refine bodyPost_ret (results_cc rfl _ _ gb110 gb111 48 36 #[.int .i64 a3_1, .int .i64 a3_0, .int .i64 (wrap64 (a1 + a2)), .int .i64 a3_2] #[.int .i64 0, .bool true, .int .i64 a3_1, .int .i64 a3_2] (0, 0) (0, 0) _ _ rfl (by (with_reducible repeat (first | refine blk_drewN ?_ _ | refine blk_drew ?_ | refine blk_alloc ?_ _)); refine blk_far ?_ NB110_111.out _; (with_reducible repeat (first | refine blk_drewN ?_ _ | refine blk_drew ?_ | refine blk_alloc ?_ _)); refine blk_far ?_ NB110_111.out _; (with_reducible repeat (first | refine blk_drewN ?_ _ | refine blk_drew ?_ | refine blk_alloc ?_ _)); refine blk_far ?_ NB110_111.out _; (with_reducible repeat (first | refine blk_drewN ?_ _ | refine blk_drew ?_ | refine blk_alloc ?_ _)); refine blk_far ?_ NB110_111.out _; (with_reducible repeat (first | refine blk_drewN ?_ _ | refine blk_drew ?_ | refine blk_alloc ?_ _)); refine blk_put (cs := #[.int .i64 a3_1, .int .i64 a3_0, .int .i64 (wrap64 (a1 + a2)), .int .i64 0]) ?_ 3 _ rfl; (with_reducible repeat (first | refine blk_drewN ?_ _ | refine blk_drew ?_ | refine blk_alloc ?_ _)); refine blk_put (cs := #[.int .i64 a3_1, .int .i64 a3_0, .int .i64 0, .int .i64 0]) ?_ 2 _ rfl; (with_reducible repeat (first | refine blk_drewN ?_ _ | refine blk_drew ?_ | refine blk_alloc ?_ _)); refine blk_put (cs := #[.int .i64 a3_1, .int .i64 0, .int .i64 0, .int .i64 0]) ?_ 1 _ rfl; (with_reducible repeat (first | refine blk_drewN ?_ _ | refine blk_drew ?_ | refine blk_alloc ?_ _)); refine blk_put (cs := #[.int .i64 0, .int .i64 0, .int .i64 0, .int .i64 0]) ?_ 0 _ rfl; (with_reducible repeat (first | refine blk_drewN ?_ _ | refine blk_drew ?_ | refine blk_alloc ?_ _)); exact BK110.out) Try.underlying48 rfl (by kernel_rfl) rfl (by (with_reducible repeat (first | refine blk_drewN ?_ _ | refine blk_drew ?_ | refine blk_alloc ?_ _)); refine blk_put (cs := #[.int .i64 0, .bool true, .int .i64 a3_1, .int .i64 0]) ?_ 3 _ rfl; (with_reducible repeat (first | refine blk_drewN ?_ _ | refine blk_drew ?_ | refine blk_alloc ?_ _)); refine blk_put (cs := #[.int .i64 0, .bool true, .int .i64 0, .int .i64 0]) ?_ 2 _ rfl; (with_reducible repeat (first | refine blk_drewN ?_ _ | refine blk_drew ?_ | refine blk_alloc ?_ _)); refine blk_put (cs := #[.int .i64 0, .bool false, .int .i64 0, .int .i64 0]) ?_ 1 _ rfl; (with_reducible repeat (first | refine blk_drewN ?_ _ | refine blk_drew ?_ | refine blk_alloc ?_ _)); refine blk_put (cs := #[.int .i64 0, .bool false, .int .i64 0, .int .i64 0]) ?_ 0 _ rfl; (with_reducible repeat (first | refine blk_drewN ?_ _ | refine blk_drew ?_ | refine blk_alloc ?_ _)); refine blk_far ?_ NB111_110.out _; (with_reducible repeat (first | refine blk_drewN ?_ _ | refine blk_drew ?_ | refine blk_alloc ?_ _)); refine blk_far ?_ NB111_110.out _; (with_reducible repeat (first | refine blk_drewN ?_ _ | refine blk_drew ?_ | refine blk_alloc ?_ _)); refine blk_far ?_ NB111_110.out _; (with_reducible repeat (first | refine blk_drewN ?_ _ | refine blk_drew ?_ | refine blk_alloc ?_ _)); refine blk_far ?_ NB111_110.out _; (with_reducible repeat (first | refine blk_drewN ?_ _ | refine blk_drew ?_ | refine blk_alloc ?_ _)); exact BK111.out) Try.underlying36 rfl (by kernel_rfl)) rfl ?_
              exact ⟨by first | rfl | (simp [errW_none, errW_some] <;> rfl) | (simp [*, errW_none, errW_some] <;> rfl), by repeat (first | (with_reducible first | exact HB.out | apply below_alloc | apply pw_below_drewN | apply below_drew1 | refine below_set ?_ GE108.out | refine below_set ?_ GE109.out | refine below_set ?_ GE110.out | refine below_set ?_ GE111.out | refine below_set ?_ GE112.out | refine below_set ?_ GE114.out) | exact HB.out)⟩

end Go.Proofs.Ytpgmfjpjjnpiiaa.PLeaseWakes
