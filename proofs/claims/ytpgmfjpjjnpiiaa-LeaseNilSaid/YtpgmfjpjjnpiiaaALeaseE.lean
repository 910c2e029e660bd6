/- PROVED: the nil elector. No condition beyond what each line says. -/
import Derived.Test.YtpgmfjpjjnpiiaaALeaseB
import Derived.Test.YtpgmfjpjjnpiiaaALRead
import Derived.Test.YtpgmfjpjjnpiiaaAWApart
import Derived.Test.YtpgmfjpjjnpiiaaAWKept
import Derived.WalkKit
import Derived.WalkSpells
import Derived.WalkLawsBesides
import Derived.Outline
import Derived.Lib.Hide
import Derived.Deep.LoopGhost
import Derived.Deep.RegionHeld3
import Derived.Deep.DeepCutAuto
import Derived.Deep.RegionLaw
import Derived.BigQuiet
import Derived.Deep.QuietTactic
namespace Go.Proofs.Ytpgmfjpjjnpiiaa.LeaseE
open Go.RowKit Go.Proofs.Ytpgmfjpjjnpiiaa.PLeaseWakes Go.Proofs.YtpgmfjpjjnpiiaaW.PrintWords Go.Proofs.YtpgmfjpjjnpiiaaW.PrintLast Go.Proofs.YtpgmfjpjjnpiiaaW.PrintMore
attribute [local go_sem] max2_int min2_int max_two min_two max_three min_three max_four min_four
set_option linter.unusedSimpArgs false
set_option linter.unusedVariables false
open Go.Proofs.Ytpgmfjpjjnpiiaa.LeaseA
open Go.Proofs.Ytpgmfjpjjnpiiaa.LeaseB
set_option maxHeartbeats 4000000 in
set_option maxRecDepth 100000 in
theorem tick_nil (t : Int) (w : World) : Calls Try.prog 14 #[.pointer none, .int .i64 t] w fun e w' => e = .returned (.slice none 0 0) ∧ w = w' := by
  go_enter Try.func14, Try.ntmps14
  go_wp2
  go_ret
  exact ⟨rfl, rfl⟩
set_option maxHeartbeats 4000000 in
set_option maxRecDepth 100000 in
theorem leads_nil (t : Int) (w : World) : Calls Try.prog 13 #[.pointer none, .int .i64 t] w fun e w' => e = .returned (.tuple #[.int .i64 0, .bool false]) ∧ w = w' := by
  go_enter Try.func13, Try.ntmps13
  go_wp2
  go_ret2
  exact ⟨rfl, rfl⟩
set_option maxHeartbeats 4000000 in
set_option maxRecDepth 100000 in
theorem free_nil (t x y z : Int) (w : World) : Calls Try.prog 12 #[.pointer none, .int .i64 t, .agg #[.int .i64 x, .int .i64 y, .int .i64 z]] w fun e w' => e = .returned (.tuple #[]) ∧ Below w.heap.size w w' := by
  have HB := Lib.hid (Below.refl w.heap.size w)
  go_enter Try.func12, Try.ntmps12
  go_wp2_with (first | ((with_reducible refine gate_dst (N := 5) rfl ?_); refine box_event ?hg (N := 5) ?hd (cs := #[.int .i64 x, .int .i64 y, .int .i64 z]) (t := 34) ?hr ?_; (case hd => rfl); (case hg => rfl); (case hr => first | (go_simp; done) | (go_simp; rfl)); intro ga hg w1 hbox hb; skip; have hb_ := below_step HB.out hb; clear HB; have HB := Lib.hid hb_; have q0 : World.cell? w1 ⟨ga, 0, none⟩ = some (.int .i64 x) := (blk_cell hbox 0).trans rfl; have qf0 := blk_frozen hbox 0; have q1 : World.cell? w1 ⟨ga, 1, none⟩ = some (.int .i64 y) := (blk_cell hbox 1).trans rfl; have qf1 := blk_frozen hbox 1; have q2 : World.cell? w1 ⟨ga, 2, none⟩ = some (.int .i64 z) := (blk_cell hbox 2).trans rfl; have qf2 := blk_frozen hbox 2; clear hbox hb hb_ hg))
  refine bodyPost_ret (results_none rfl _ _ _) rfl ?_
  exact ⟨rfl, HB.out⟩
set_option maxHeartbeats 4000000 in
set_option maxRecDepth 100000 in
theorem reply_nil (t x y z : Int) (b : Bool) (w : World) : Calls Try.prog 11 #[.pointer none, .int .i64 t, .agg #[.int .i64 x, .bool b, .int .i64 y, .int .i64 z]] w fun e w' => e = .returned (.tuple #[]) ∧ Below w.heap.size w w' := by
  have HB := Lib.hid (Below.refl w.heap.size w)
  go_enter Try.func11, Try.ntmps11
  go_upto_region 1 with (first | ((with_reducible refine gate_dst (N := 5) rfl ?_); refine box_event ?hg (N := 5) ?hd (cs := #[.int .i64 x, .bool b, .int .i64 y, .int .i64 z]) (t := 36) ?hr ?_; (case hd => rfl); (case hg => rfl); (case hr => first | (go_simp; done) | (go_simp; rfl)); intro ga hg w1 hbox hb; skip; have hb_ := below_step HB.out hb; clear HB; have HB := Lib.hid hb_; have q0 : World.cell? w1 ⟨ga, 0, none⟩ = some (.int .i64 x) := (blk_cell hbox 0).trans rfl; have qf0 := blk_frozen hbox 0; have q1 : World.cell? w1 ⟨ga, 1, none⟩ = some (.bool b) := (blk_cell hbox 1).trans rfl; have qf1 := blk_frozen hbox 1; have q2 : World.cell? w1 ⟨ga, 2, none⟩ = some (.int .i64 y) := (blk_cell hbox 2).trans rfl; have qf2 := blk_frozen hbox 2; have q3 : World.cell? w1 ⟨ga, 3, none⟩ = some (.int .i64 z) := (blk_cell hbox 3).trans rfl; have qf3 := blk_frozen hbox 3; clear hbox hb hb_ hg))
  go_quiet (fail)
  go_wp2
  refine bodyPost_ret (results_none rfl _ _ _) rfl ?_
  exact ⟨rfl, pw_below_drewN HB.out _⟩
set_option maxHeartbeats 4000000 in
set_option maxRecDepth 100000 in
theorem vote_nil (w : World) : Calls Try.prog 15 #[.pointer none] w fun e w' => e = .returned (.agg #[.int .i64 0, .int .i64 (-1), .int .i64 0, .int .i64 0]) ∧ Below w.heap.size w w' := by
  have HB := Lib.hid (Below.refl w.heap.size w)
  go_enter Try.func15, Try.ntmps15
  go_wp2_with (first | ((with_reducible refine gate_dst (N := 2) rfl ?_); refine box_event ?hg (N := 2) ?hd (cs := #[.int .i64 0, .int .i64 0, .int .i64 0, .int .i64 0]) (t := 48) ?hr ?_; (case hd => rfl); (case hg => rfl); (case hr => first | (go_simp; done) | (go_simp; rfl)); intro gb hg w1 hbox hb; have hg2 := Lib.hid (Nat.le_trans HB.out.size (Nat.le_of_eq hg.symm)); have hb_ := below_step HB.out hb; clear HB; have HB := Lib.hid hb_; have hX := Lib.hid hbox; have y0 : World.cell? w1 ⟨gb, 0, none⟩ = some (.int .i64 0) := (blk_cell hbox 0).trans rfl; have yf0 := blk_frozen hbox 0; have y1 : World.cell? w1 ⟨gb, 1, none⟩ = some (.int .i64 0) := (blk_cell hbox 1).trans rfl; have yf1 := blk_frozen hbox 1; have y2 : World.cell? w1 ⟨gb, 2, none⟩ = some (.int .i64 0) := (blk_cell hbox 2).trans rfl; have yf2 := blk_frozen hbox 2; have y3 : World.cell? w1 ⟨gb, 3, none⟩ = some (.int .i64 0) := (blk_cell hbox 3).trans rfl; have yf3 := blk_frozen hbox 3; clear hbox hb hb_ hg) | ((with_reducible go_at_call 19); go_must (refine (ballot_Fresh.calls 0 (-1) 0 0 _ rfl).mono ?_; rintro e w1 ⟨rfl, hb⟩; have hX_ := blk_below hX.out hb; have hb_ := below_step HB.out hb; clear HB hX y0 y1 y2 y3 yf0 yf1 yf2 yf3; have HB := Lib.hid hb_; have hX := Lib.hid hX_; have y0 : World.cell? w1 ⟨gb, 0, none⟩ = some (.int .i64 0) := (blk_cell hX_ 0).trans rfl; have yf0 := blk_frozen hX_ 0; have y1 : World.cell? w1 ⟨gb, 1, none⟩ = some (.int .i64 0) := (blk_cell hX_ 1).trans rfl; have yf1 := blk_frozen hX_ 1; have y2 : World.cell? w1 ⟨gb, 2, none⟩ = some (.int .i64 0) := (blk_cell hX_ 2).trans rfl; have yf2 := blk_frozen hX_ 2; have y3 : World.cell? w1 ⟨gb, 3, none⟩ = some (.int .i64 0) := (blk_cell hX_ 3).trans rfl; have yf3 := blk_frozen hX_ 3; clear hX_ hb hb_)))
  refine bodyPost_ret (results_cell_row rfl _ _ gb 48 #[.int .i64 0, .int .i64 (-1), .int .i64 0, .int .i64 0] (0, 0) _ rfl (blk_put (blk_put (blk_put (blk_put hX.out 0 _ rfl) 1 _ rfl) 2 _ rfl) 3 _ rfl) Try.underlying48 rfl (by kernel_rfl)) rfl ?_
  exact ⟨rfl, (below_set (below_set (below_set (below_set HB.out hg2.out) hg2.out) hg2.out) hg2.out)⟩
set_option maxHeartbeats 4000000 in
set_option maxRecDepth 100000 in
theorem ask_nil (t x y z : Int) (w : World) : Calls Try.prog 10 #[.pointer none, .int .i64 t, .agg #[.int .i64 x, .int .i64 y, .int .i64 z]] w fun e w' => e = .returned (.tuple #[.agg #[.int .i64 0, .int .i64 0, .int .i64 0, .int .i64 0, .int .i64 0, .int .i64 0, .bool false, .int .i64 0, .int .i64 0], .int .i64 0]) ∧ Below w.heap.size w w' := by
  have HB := Lib.hid (Below.refl w.heap.size w)
  go_enter Try.func10, Try.ntmps10
  go_upto_region 1 with (first | ((with_reducible refine gate_dst (N := 5) rfl ?_); refine box_event ?hg (N := 5) ?hd (cs := #[.int .i64 x, .int .i64 y, .int .i64 z]) (t := 34) ?hr ?_; (case hd => rfl); (case hg => rfl); (case hr => first | (go_simp; done) | (go_simp; rfl)); intro ga hg w1 hbox hb; skip; have hb_ := below_step HB.out hb; clear HB; have HB := Lib.hid hb_; have q0 : World.cell? w1 ⟨ga, 0, none⟩ = some (.int .i64 x) := (blk_cell hbox 0).trans rfl; have qf0 := blk_frozen hbox 0; have q1 : World.cell? w1 ⟨ga, 1, none⟩ = some (.int .i64 y) := (blk_cell hbox 1).trans rfl; have qf1 := blk_frozen hbox 1; have q2 : World.cell? w1 ⟨ga, 2, none⟩ = some (.int .i64 z) := (blk_cell hbox 2).trans rfl; have qf2 := blk_frozen hbox 2; clear hbox hb hb_ hg) | ((with_reducible refine gate_dst (N := 6) rfl ?_); refine box_event ?hg (N := 6) ?hd (cs := #[.int .i64 0, .int .i64 0, .int .i64 0, .int .i64 0, .int .i64 0, .int .i64 0, .bool false, .int .i64 0, .int .i64 0]) (t := 38) ?hr ?_; (case hd => rfl); (case hg => rfl); (case hr => first | (go_simp; done) | (go_simp; rfl)); intro gb hg w1 hbox hb; have hg2 := Lib.hid (Nat.le_trans HB.out.size (Nat.le_of_eq hg.symm)); have hb_ := below_step HB.out hb; clear HB; have HB := Lib.hid hb_; have hX := Lib.hid hbox; have y0 : World.cell? w1 ⟨gb, 0, none⟩ = some (.int .i64 0) := (blk_cell hbox 0).trans rfl; have yf0 := blk_frozen hbox 0; have y1 : World.cell? w1 ⟨gb, 1, none⟩ = some (.int .i64 0) := (blk_cell hbox 1).trans rfl; have yf1 := blk_frozen hbox 1; have y2 : World.cell? w1 ⟨gb, 2, none⟩ = some (.int .i64 0) := (blk_cell hbox 2).trans rfl; have yf2 := blk_frozen hbox 2; have y3 : World.cell? w1 ⟨gb, 3, none⟩ = some (.int .i64 0) := (blk_cell hbox 3).trans rfl; have yf3 := blk_frozen hbox 3; have y4 : World.cell? w1 ⟨gb, 4, none⟩ = some (.int .i64 0) := (blk_cell hbox 4).trans rfl; have yf4 := blk_frozen hbox 4; have y5 : World.cell? w1 ⟨gb, 5, none⟩ = some (.int .i64 0) := (blk_cell hbox 5).trans rfl; have yf5 := blk_frozen hbox 5; have y6 : World.cell? w1 ⟨gb, 6, none⟩ = some (.bool false) := (blk_cell hbox 6).trans rfl; have yf6 := blk_frozen hbox 6; have y7 : World.cell? w1 ⟨gb, 7, none⟩ = some (.int .i64 0) := (blk_cell hbox 7).trans rfl; have yf7 := blk_frozen hbox 7; have y8 : World.cell? w1 ⟨gb, 8, none⟩ = some (.int .i64 0) := (blk_cell hbox 8).trans rfl; have yf8 := blk_frozen hbox 8; clear hbox hb hb_ hg))
  go_quiet (fail)
  go_wp2
  refine bodyPost_ret (results_ct rfl _ _ gb 38 #[.int .i64 0, .int .i64 0, .int .i64 0, .int .i64 0, .int .i64 0, .int .i64 0, .bool false, .int .i64 0, .int .i64 0] (0, 0) _ rfl (blk_put (blk_put (blk_put (blk_put (blk_put (blk_put (blk_put (blk_put (blk_put (blk_drewN hX.out _) 0 _ rfl) 1 _ rfl) 2 _ rfl) 3 _ rfl) 4 _ rfl) 5 _ rfl) 6 _ rfl) 7 _ rfl) 8 _ rfl) Try.underlying38 rfl (by kernel_rfl)) rfl ?_
  exact ⟨rfl, (below_set (below_set (below_set (below_set (below_set (below_set (below_set (below_set (below_set (pw_below_drewN HB.out _) hg2.out) hg2.out) hg2.out) hg2.out) hg2.out) hg2.out) hg2.out) hg2.out) hg2.out)⟩
end Go.Proofs.Ytpgmfjpjjnpiiaa.LeaseE
