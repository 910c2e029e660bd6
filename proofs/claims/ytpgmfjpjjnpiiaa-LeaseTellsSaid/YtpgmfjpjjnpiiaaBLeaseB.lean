/- PROVED: lemmas that the row uses (cut copies of my texts and of the printed ones). No condition beyond what each line says. -/
import Derived.Test.YtpgmfjpjjnpiiaaBXA
import Derived.Test.YtpgmfjpjjnpiiaaBWAll
import Derived.WalkKit
import Derived.WalkSpells
import Derived.WalkLawsBesides
import Derived.Outline
import Derived.Lib.Hide
import Derived.Deep.LoopGhost
import Derived.Deep.RegionHeld3
import Derived.Deep.DeepCutAuto
import Derived.Deep.RegionLaw
import Derived.BigQuiet
import Derived.Deep.QuietTactic
namespace Go.Proofs.Ytpgmfjpjjnpiiaa.LeaseB
open Go.RowKit Go.Proofs.Ytpgmfjpjjnpiiaa.PLeaseWakes Go.Proofs.YtpgmfjpjjnpiiaaW.PrintWords Go.Proofs.YtpgmfjpjjnpiiaaW.PrintLast Go.Proofs.YtpgmfjpjjnpiiaaW.PrintMore
attribute [local go_sem] max2_int min2_int max_two min_two max_three min_three max_four min_four
set_option linter.unusedSimpArgs false
set_option linter.unusedVariables false
open Go.Proofs.Ytpgmfjpjjnpiiaa.LeaseA
section
variable {base : Nat} {ok : Nat → Prop} {w w1 : World} {r : Nat} {v : Value} {s : ES}
/-- What lies lower is left alone. -/
theorem EIs.low (h : EIs base ok w r v s) {B : Nat} (hr : r < B) (ho : ∀ k, ok k → k < B) (hb : Below B w w1) : EIs base ok w1 r v s :=
  ⟨(hb.block r hr).trans h.1, h.2.1, Kd.R_step h.2.2 (fun k hk _ => hb.block k (ho k hk))⟩
end
theorem info38 : (Try.prog.info? 38).map (fun i => (i.zero, i.size, i.bytes)) = some (some (.agg #[.int .i64 0, .int .i64 0, .int .i64 0, .int .i64 0, .int .i64 0, .int .i64 0, .bool false, .int .i64 0, .int .i64 0]), 9, 72) := by kernel_rfl
/-- The posts that go out. -/
def postG (s : ES) (i : Nat) : S38 := ⟨i, 3, ⟨s.a0, s.a1, s.a2⟩, z36⟩
def postA (x y z : Int) (i : Nat) : S38 := ⟨i, 1, ⟨x, y, z⟩, z36⟩
def outG (s : ES) (n : Nat) : List S38 := (List.range n).map (postG s)
def outA (x y z : Int) (n : Nat) : List S38 := (List.range n).map (postA x y z)
theorem outG_succ (s : ES) (n : Nat) : outG s (n + 1) = outG s n ++ [postG s n] := by simp [outG, List.range_succ]
theorem outA_succ (x y z : Int) (n : Nat) : outA x y z (n + 1) = outA x y z n ++ [postA x y z n] := by simp [outA, List.range_succ]
theorem outG_len (s : ES) (n : Nat) : (outG s n).length = n := by simp [outG]
theorem outA_len (x y z : Int) (n : Nat) : (outA x y z n).length = n := by simp [outA]
set_option maxHeartbeats 4000000 in
set_option maxRecDepth 100000 in
theorem give_ok (base r : Nat) (ok : Nat → Prop) (v : Value) (s : ES) (i : Int) (w : World) (h : EIs base ok w r v s) :
    Calls Try.prog 36 #[.pointer (some ⟨r, 0, none⟩), .int .i64 i] w fun e w' => e = .returned (.agg #[.int .i64 i, .int .i64 3, .int .i64 s.a0, .int .i64 s.a1, .int .i64 s.a2, .int .i64 0, .bool false, .int .i64 0, .int .i64 0]) ∧ Below w.heap.size w w' := by
  have H := Lib.hid h
  clear h
  go_enter Try.func36, Try.ntmps36
  go_wp2_with (first | ((with_reducible refine gate_dst (N := 4) rfl ?_); refine box_event ?hg (N := 4) ?hd (cs := #[.int .i64 0, .int .i64 0, .int .i64 0, .int .i64 0, .int .i64 0, .int .i64 0, .bool false, .int .i64 0, .int .i64 0]) (t := 38) ?hr ?_; (case hd => rfl); (case hg => rfl); (case hr => first | (go_simp; done) | (go_simp; rfl)); intro gb hg w1 hbox hb; have hX := Lib.hid hbox; have y0 : w1.cell? ⟨gb, 0, none⟩ = some (.int .i64 0) := (blk_cell hbox 0).trans rfl; have yf0 := blk_frozen hbox 0; have y1 : w1.cell? ⟨gb, 1, none⟩ = some (.int .i64 0) := (blk_cell hbox 1).trans rfl; have yf1 := blk_frozen hbox 1; have y2 : w1.cell? ⟨gb, 2, none⟩ = some (.int .i64 0) := (blk_cell hbox 2).trans rfl; have yf2 := blk_frozen hbox 2; have y3 : w1.cell? ⟨gb, 3, none⟩ = some (.int .i64 0) := (blk_cell hbox 3).trans rfl; have yf3 := blk_frozen hbox 3; have y4 : w1.cell? ⟨gb, 4, none⟩ = some (.int .i64 0) := (blk_cell hbox 4).trans rfl; have yf4 := blk_frozen hbox 4; have y5 : w1.cell? ⟨gb, 5, none⟩ = some (.int .i64 0) := (blk_cell hbox 5).trans rfl; have yf5 := blk_frozen hbox 5; have y6 : w1.cell? ⟨gb, 6, none⟩ = some (.bool false) := (blk_cell hbox 6).trans rfl; have yf6 := blk_frozen hbox 6; have y7 : w1.cell? ⟨gb, 7, none⟩ = some (.int .i64 0) := (blk_cell hbox 7).trans rfl; have yf7 := blk_frozen hbox 7; have y8 : w1.cell? ⟨gb, 8, none⟩ = some (.int .i64 0) := (blk_cell hbox 8).trans rfl; have yf8 := blk_frozen hbox 8; have hB1 := Lib.hid hb; have hg1 := Lib.hid hg; have hC_ := (H.out.kept hb).cells; obtain ⟨c0, c1, c2, c3, c4, c5, c6, c7, c8, c9, c10, c11, c12, c13, c14, c15, c16, c17⟩ := hC_; clear c0 c1 c2 c3 c4 c5 c6 c7 c8 c12 c13 c14 c15 c16 c17; clear hbox hb hg))
  refine bodyPost_ret (results_cell_row rfl _ _ gb 38 #[.int .i64 i, .int .i64 3, .int .i64 s.a0, .int .i64 s.a1, .int .i64 s.a2, .int .i64 0, .bool false, .int .i64 0, .int .i64 0] (0, 0) _ rfl (blk_put (blk_put (blk_put (blk_put (blk_put (blk_put (blk_put (blk_put (blk_put hX.out 0 _ rfl) 1 _ rfl) 2 _ rfl) 3 _ rfl) 4 _ rfl) 5 _ rfl) 6 _ rfl) 7 _ rfl) 8 _ rfl) Try.underlying38 rfl (by kernel_rfl)) rfl ?_
  have hg2 : w.heap.size ≤ gb := Nat.le_of_eq hg1.out.symm
  exact ⟨rfl, (below_set (below_set (below_set (below_set (below_set (below_set (below_set (below_set (below_set hB1.out hg2) hg2) hg2) hg2) hg2) hg2) hg2) hg2) hg2)⟩
set_option maxHeartbeats 4000000 in
set_option maxRecDepth 100000 in
theorem askc_ok (a : Nat) (x y z : Int) (i : Int) (w : World) (h : w.heap[a]? = some (.cells #[.int .i64 x, .int .i64 y, .int .i64 z] 34 (0, 0))) :
    Calls Try.prog 51 #[.int .i64 i, .pointer (some ⟨a, 0, none⟩)] w fun e w' => e = .returned (.agg #[.int .i64 i, .int .i64 1, .int .i64 x, .int .i64 y, .int .i64 z, .int .i64 0, .bool false, .int .i64 0, .int .i64 0]) ∧ Below w.heap.size w w' := by
  have H := Lib.hid h
  clear h
  go_enter Try.func51, Try.ntmps51
  go_wp2_with (first | ((with_reducible refine gate_dst (N := 3) rfl ?_); refine box_event ?hg (N := 3) ?hd (cs := #[.int .i64 0, .int .i64 0, .int .i64 0, .int .i64 0, .int .i64 0, .int .i64 0, .bool false, .int .i64 0, .int .i64 0]) (t := 38) ?hr ?_; (case hd => rfl); (case hg => rfl); (case hr => first | (go_simp; done) | (go_simp; rfl)); intro gb hg w1 hbox hb; have hX := Lib.hid hbox; have y0 : w1.cell? ⟨gb, 0, none⟩ = some (.int .i64 0) := (blk_cell hbox 0).trans rfl; have yf0 := blk_frozen hbox 0; have y1 : w1.cell? ⟨gb, 1, none⟩ = some (.int .i64 0) := (blk_cell hbox 1).trans rfl; have yf1 := blk_frozen hbox 1; have y2 : w1.cell? ⟨gb, 2, none⟩ = some (.int .i64 0) := (blk_cell hbox 2).trans rfl; have yf2 := blk_frozen hbox 2; have y3 : w1.cell? ⟨gb, 3, none⟩ = some (.int .i64 0) := (blk_cell hbox 3).trans rfl; have yf3 := blk_frozen hbox 3; have y4 : w1.cell? ⟨gb, 4, none⟩ = some (.int .i64 0) := (blk_cell hbox 4).trans rfl; have yf4 := blk_frozen hbox 4; have y5 : w1.cell? ⟨gb, 5, none⟩ = some (.int .i64 0) := (blk_cell hbox 5).trans rfl; have yf5 := blk_frozen hbox 5; have y6 : w1.cell? ⟨gb, 6, none⟩ = some (.bool false) := (blk_cell hbox 6).trans rfl; have yf6 := blk_frozen hbox 6; have y7 : w1.cell? ⟨gb, 7, none⟩ = some (.int .i64 0) := (blk_cell hbox 7).trans rfl; have yf7 := blk_frozen hbox 7; have y8 : w1.cell? ⟨gb, 8, none⟩ = some (.int .i64 0) := (blk_cell hbox 8).trans rfl; have yf8 := blk_frozen hbox 8; have hB1 := Lib.hid hb; have hg1 := Lib.hid hg; have hx_ := blk_below H.out hb; have q0 : w1.cell? ⟨a, 0, none⟩ = some (.int .i64 x) := (blk_cell hx_ 0).trans rfl; have q1 : w1.cell? ⟨a, 1, none⟩ = some (.int .i64 y) := (blk_cell hx_ 1).trans rfl; have q2 : w1.cell? ⟨a, 2, none⟩ = some (.int .i64 z) := (blk_cell hx_ 2).trans rfl; clear hx_; clear hbox hb hg))
  refine bodyPost_ret (results_cell_row rfl _ _ gb 38 #[.int .i64 i, .int .i64 1, .int .i64 x, .int .i64 y, .int .i64 z, .int .i64 0, .bool false, .int .i64 0, .int .i64 0] (0, 0) _ rfl (blk_put (blk_put (blk_put (blk_put (blk_put (blk_put (blk_put (blk_put (blk_put hX.out 0 _ rfl) 1 _ rfl) 2 _ rfl) 3 _ rfl) 4 _ rfl) 5 _ rfl) 6 _ rfl) 7 _ rfl) 8 _ rfl) Try.underlying38 rfl (by kernel_rfl)) rfl ?_
  have hg2 : w.heap.size ≤ gb := Nat.le_of_eq hg1.out.symm
  exact ⟨rfl, (below_set (below_set (below_set (below_set (below_set (below_set (below_set (below_set (below_set hB1.out hg2) hg2) hg2) hg2) hg2) hg2) hg2) hg2) hg2)⟩
end Go.Proofs.Ytpgmfjpjjnpiiaa.LeaseB
