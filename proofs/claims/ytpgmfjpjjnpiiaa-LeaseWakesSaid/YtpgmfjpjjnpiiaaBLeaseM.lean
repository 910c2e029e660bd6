/- PROVED: lemmas that the row uses (cut copies of my texts and of the printed ones). No condition beyond what each line says. -/
import Derived.Test.YtpgmfjpjjnpiiaaBLeaseL
import Derived.Test.YtpgmfjpjjnpiiaaBLeaseK
import Derived.Test.YtpgmfjpjjnpiiaaBXA
import Derived.Test.YtpgmfjpjjnpiiaaBWAll
import Derived.WalkKit
import Derived.WalkSpells
import Derived.WalkLawsBesides
import Derived.Outline
import Derived.Lib.Hide
import Derived.Deep.LoopGhost
import Derived.Deep.RegionHeld3
import Derived.Deep.DeepCutAuto
import Derived.Deep.RegionLaw
import Derived.BigQuiet
import Derived.Deep.QuietTactic
namespace Go.Proofs.Ytpgmfjpjjnpiiaa.LeaseM
open Go.RowKit Go.Proofs.Ytpgmfjpjjnpiiaa.PLeaseWakes Go.Proofs.YtpgmfjpjjnpiiaaW.PrintWords Go.Proofs.YtpgmfjpjjnpiiaaW.PrintLast Go.Proofs.YtpgmfjpjjnpiiaaW.PrintMore
attribute [local go_sem] max2_int min2_int max_two min_two max_three min_three max_four min_four
set_option linter.unusedSimpArgs false
set_option linter.unusedVariables false
open Go.Proofs.Ytpgmfjpjjnpiiaa.LeaseA
open Go.Proofs.Ytpgmfjpjjnpiiaa.LeaseB Go.Proofs.Ytpgmfjpjjnpiiaa.LeaseC Go.Proofs.Ytpgmfjpjjnpiiaa.LeaseD Go.Proofs.Ytpgmfjpjjnpiiaa.LeaseH Go.Proofs.Ytpgmfjpjjnpiiaa.LeaseJ Go.Proofs.Ytpgmfjpjjnpiiaa.LeaseK
open Go.Proofs.Ytpgmfjpjjnpiiaa.LeaseL
/-- What an ask comes to. -/
def AskP (base : Nat) (ok : Nat → Prop) (r : Nat) (v : Value) (x : ES × S38 × Int) (w : World) (e : Ending) (w' : World) : Prop :=
  e = .returned (.tuple #[.agg #[.int .i64 x.2.1.f0, .int .i64 x.2.1.f1, .int .i64 x.2.1.f2.f0, .int .i64 x.2.1.f2.f1, .int .i64 x.2.1.f2.f2, .int .i64 x.2.1.f3.f0, .bool x.2.1.f3.f1, .int .i64 x.2.1.f3.f2, .int .i64 x.2.1.f3.f3], .int .i64 x.2.2]) ∧ EIs base ok w' r v x.1 ∧ Stp base r w w'
theorem bcell {W w1 : World} (hb : Below W.heap.size W w1) : (∀ b o, b < W.heap.size → w1.cell? ⟨b, o, none⟩ = W.cell? ⟨b, o, none⟩) ∧ (∀ b o, b < W.heap.size → w1.frozen? ⟨b, o, none⟩ = W.frozen? ⟨b, o, none⟩) :=
  ⟨fun b o h => hb.cell (p := ⟨b, o, none⟩) h, fun b o h => hb.frozen (p := ⟨b, o, none⟩) h⟩
theorem blk_new2 (w : World) (a b : Obj) : ((w.alloc a).alloc b).heap[w.heap.size + 1]? = some b := by
  have h := blk_new (w.alloc a) b
  have e : (w.alloc a).heap.size = w.heap.size + 1 := by simp
  rw [e] at h
  exact h
theorem cel_of {r ga : Nat} {s1 : ES} {v : Value} {x y z : Int} {W : World} (h1 : W.heap[r]? = some (.cells (cellsE s1 v) 58 (0, 0))) (h2 : W.heap[ga]? = some (.cells #[.int .i64 x, .int .i64 y, .int .i64 z] 34 (0, 0))) : W.cell? ⟨r, 5, none⟩ = some (.int .i64 s1.ve) ∧ W.cell? ⟨r, 6, none⟩ = some (.int .i64 s1.vh) ∧ W.cell? ⟨r, 7, none⟩ = some (.int .i64 s1.vu) ∧ W.cell? ⟨r, 8, none⟩ = some (.int .i64 s1.vs) ∧ W.cell? ⟨r, 4, none⟩ = some (.int .i64 s1.now) ∧ W.cell? ⟨r, 2, none⟩ = some (.int .i64 s1.lease) ∧ W.cell? ⟨ga, 0, none⟩ = some (.int .i64 x) ∧ W.cell? ⟨ga, 1, none⟩ = some (.int .i64 y) ∧ W.cell? ⟨ga, 2, none⟩ = some (.int .i64 z) :=
  ⟨(blk_cell h1 5).trans rfl, (blk_cell h1 6).trans rfl, (blk_cell h1 7).trans rfl, (blk_cell h1 8).trans rfl, (blk_cell h1 4).trans rfl, (blk_cell h1 2).trans rfl, (blk_cell h2 0).trans rfl, (blk_cell h2 1).trans rfl, (blk_cell h2 2).trans rfl⟩
theorem blk_newS {w : World} {o : Obj} {n : Nat} (h : n = w.heap.size) : (w.alloc o).heap[n]? = some o := by
  subst h
  exact blk_new w o
theorem blk_put48 {w : World} {g : Nat} (h : w.heap[g]? = some (.cells #[.int .i64 0, .int .i64 0, .int .i64 0, .int .i64 0] 48 (0, 0))) (a b c d : Value) : ((((w.setCell ⟨g, 0, none⟩ a).setCell ⟨g, 1, none⟩ b).setCell ⟨g, 2, none⟩ c).setCell ⟨g, 3, none⟩ d).heap[g]? = some (.cells #[a, b, c, d] 48 (0, 0)) :=
  blk_put (blk_put (blk_put (blk_put h 0 a rfl) 1 b rfl) 2 c rfl) 3 d rfl
theorem blk_put36 {w : World} {g : Nat} (h : w.heap[g]? = some (.cells #[.int .i64 0, .bool false, .int .i64 0, .int .i64 0] 36 (0, 0))) (a b c d : Value) : ((((w.setCell ⟨g, 0, none⟩ a).setCell ⟨g, 1, none⟩ b).setCell ⟨g, 2, none⟩ c).setCell ⟨g, 3, none⟩ d).heap[g]? = some (.cells #[a, b, c, d] 36 (0, 0)) :=
  blk_put (blk_put (blk_put (blk_put h 0 a rfl) 1 b rfl) 2 c rfl) 3 d rfl
theorem balloc {B : Nat} {w W : World} (h : Below B w W) (hB : B ≤ W.heap.size) (o : Obj) : Below B w (W.alloc o) := h.alloc hB o
theorem Stp.of_below {base r : Nat} {w w1 : World} (hb : Below w.heap.size w w1) (h : base ≤ w.heap.size) : Stp base r w w1 := ⟨hb.mono h, Kept.of_below hb _⟩
theorem bset {B g j : Nat} {w W : World} {u : Value} (h : Below B w W) (hg : B ≤ g) : Below B w (W.setCell ⟨g, j, none⟩ u) := h.setCell hg _
theorem askP_no {base r : Nat} {ok : Nat → Prop} {v : Value} {s : ES} {t x y z : Int} {w W W' : World} {e : Ending} (h : x < 0 ∨ s.n ≤ x) (he : e = .returned (.tuple #[.agg #[.int .i64 0, .int .i64 0, .int .i64 0, .int .i64 0, .int .i64 0, .int .i64 0, .bool false, .int .i64 0, .int .i64 0], .int .i64 0])) (H : EIs base ok W r v s) (S : Stp base r w W) (hr : r < w.heap.size) (ho : ∀ k, ok k → k < w.heap.size) (hbw : base ≤ w.heap.size) (hb : Below w.heap.size W W') : AskP base ok r v (askS s t x y z) w e W' := by
  unfold askS
  rw [if_pos h]
  exact ⟨he, EIs.low H hr ho hb, Stp.low S hb hbw⟩
set_option maxHeartbeats 4000000 in
set_option maxRecDepth 100000 in
theorem ask_end {base r gb : Nat} {ok : Nat → Prop} {v : Value} {s : ES} {w W : World} (hX : W.heap[gb]? = some (.cells #[.int .i64 0, .int .i64 0, .int .i64 0, .int .i64 0, .int .i64 0, .int .i64 0, .bool false, .int .i64 0, .int .i64 0] 38 (0, 0))) (H : EIs base ok W r v s) (T : Stp base r w W) (hg : w.heap.size ≤ gb) (hr : r < w.heap.size) (ho : ∀ k, ok k → k < w.heap.size) (hbw : base ≤ w.heap.size) (o : Obj) (a0 a1 a2 a3 a4 a5 a6 a7 a8 : Value) :
    ((((((((((W.setCell ⟨gb, 0, none⟩ a0).setCell ⟨gb, 1, none⟩ a1).setCell ⟨gb, 2, none⟩ a2).setCell ⟨gb, 3, none⟩ a3).setCell ⟨gb, 4, none⟩ a4).setCell ⟨gb, 5, none⟩ a5).setCell ⟨gb, 6, none⟩ a6).setCell ⟨gb, 7, none⟩ a7).setCell ⟨gb, 8, none⟩ a8).alloc o).heap[gb]? = some (.cells #[a0, a1, a2, a3, a4, a5, a6, a7, a8] 38 (0, 0)) ∧ EIs base ok ((((((((((W.setCell ⟨gb, 0, none⟩ a0).setCell ⟨gb, 1, none⟩ a1).setCell ⟨gb, 2, none⟩ a2).setCell ⟨gb, 3, none⟩ a3).setCell ⟨gb, 4, none⟩ a4).setCell ⟨gb, 5, none⟩ a5).setCell ⟨gb, 6, none⟩ a6).setCell ⟨gb, 7, none⟩ a7).setCell ⟨gb, 8, none⟩ a8).alloc o) r v s ∧ Stp base r w ((((((((((W.setCell ⟨gb, 0, none⟩ a0).setCell ⟨gb, 1, none⟩ a1).setCell ⟨gb, 2, none⟩ a2).setCell ⟨gb, 3, none⟩ a3).setCell ⟨gb, 4, none⟩ a4).setCell ⟨gb, 5, none⟩ a5).setCell ⟨gb, 6, none⟩ a6).setCell ⟨gb, 7, none⟩ a7).setCell ⟨gb, 8, none⟩ a8).alloc o) := by
  have h1 := (bset (j := 8) (u := a8) (bset (j := 7) (u := a7) (bset (j := 6) (u := a6) (bset (j := 5) (u := a5) (bset (j := 4) (u := a4) (bset (j := 3) (u := a3) (bset (j := 2) (u := a2) (bset (j := 1) (u := a1) (bset (j := 0) (u := a0) (Below.refl w.heap.size W) hg) hg) hg) hg) hg) hg) hg) hg) hg)
  have h2 := balloc h1 (Nat.le_trans T.2.1 h1.size) o
  have e0 : (W.setCell ⟨gb, 0, none⟩ a0).heap[gb]? = some (.cells #[a0, .int .i64 0, .int .i64 0, .int .i64 0, .int .i64 0, .int .i64 0, .bool false, .int .i64 0, .int .i64 0] 38 (0, 0)) := blk_put hX 0 a0 rfl
  have e1 : ((W.setCell ⟨gb, 0, none⟩ a0).setCell ⟨gb, 1, none⟩ a1).heap[gb]? = some (.cells #[a0, a1, .int .i64 0, .int .i64 0, .int .i64 0, .int .i64 0, .bool false, .int .i64 0, .int .i64 0] 38 (0, 0)) := blk_put e0 1 a1 rfl
  have e2 : (((W.setCell ⟨gb, 0, none⟩ a0).setCell ⟨gb, 1, none⟩ a1).setCell ⟨gb, 2, none⟩ a2).heap[gb]? = some (.cells #[a0, a1, a2, .int .i64 0, .int .i64 0, .int .i64 0, .bool false, .int .i64 0, .int .i64 0] 38 (0, 0)) := blk_put e1 2 a2 rfl
  have e3 : ((((W.setCell ⟨gb, 0, none⟩ a0).setCell ⟨gb, 1, none⟩ a1).setCell ⟨gb, 2, none⟩ a2).setCell ⟨gb, 3, none⟩ a3).heap[gb]? = some (.cells #[a0, a1, a2, a3, .int .i64 0, .int .i64 0, .bool false, .int .i64 0, .int .i64 0] 38 (0, 0)) := blk_put e2 3 a3 rfl
  have e4 : (((((W.setCell ⟨gb, 0, none⟩ a0).setCell ⟨gb, 1, none⟩ a1).setCell ⟨gb, 2, none⟩ a2).setCell ⟨gb, 3, none⟩ a3).setCell ⟨gb, 4, none⟩ a4).heap[gb]? = some (.cells #[a0, a1, a2, a3, a4, .int .i64 0, .bool false, .int .i64 0, .int .i64 0] 38 (0, 0)) := blk_put e3 4 a4 rfl
  have e5 : ((((((W.setCell ⟨gb, 0, none⟩ a0).setCell ⟨gb, 1, none⟩ a1).setCell ⟨gb, 2, none⟩ a2).setCell ⟨gb, 3, none⟩ a3).setCell ⟨gb, 4, none⟩ a4).setCell ⟨gb, 5, none⟩ a5).heap[gb]? = some (.cells #[a0, a1, a2, a3, a4, a5, .bool false, .int .i64 0, .int .i64 0] 38 (0, 0)) := blk_put e4 5 a5 rfl
  have e6 : (((((((W.setCell ⟨gb, 0, none⟩ a0).setCell ⟨gb, 1, none⟩ a1).setCell ⟨gb, 2, none⟩ a2).setCell ⟨gb, 3, none⟩ a3).setCell ⟨gb, 4, none⟩ a4).setCell ⟨gb, 5, none⟩ a5).setCell ⟨gb, 6, none⟩ a6).heap[gb]? = some (.cells #[a0, a1, a2, a3, a4, a5, a6, .int .i64 0, .int .i64 0] 38 (0, 0)) := blk_put e5 6 a6 rfl
  have e7 : ((((((((W.setCell ⟨gb, 0, none⟩ a0).setCell ⟨gb, 1, none⟩ a1).setCell ⟨gb, 2, none⟩ a2).setCell ⟨gb, 3, none⟩ a3).setCell ⟨gb, 4, none⟩ a4).setCell ⟨gb, 5, none⟩ a5).setCell ⟨gb, 6, none⟩ a6).setCell ⟨gb, 7, none⟩ a7).heap[gb]? = some (.cells #[a0, a1, a2, a3, a4, a5, a6, a7, .int .i64 0] 38 (0, 0)) := blk_put e6 7 a7 rfl
  have e8 : (((((((((W.setCell ⟨gb, 0, none⟩ a0).setCell ⟨gb, 1, none⟩ a1).setCell ⟨gb, 2, none⟩ a2).setCell ⟨gb, 3, none⟩ a3).setCell ⟨gb, 4, none⟩ a4).setCell ⟨gb, 5, none⟩ a5).setCell ⟨gb, 6, none⟩ a6).setCell ⟨gb, 7, none⟩ a7).setCell ⟨gb, 8, none⟩ a8).heap[gb]? = some (.cells #[a0, a1, a2, a3, a4, a5, a6, a7, a8] 38 (0, 0)) := blk_put e7 8 a8 rfl
  exact ⟨blk_alloc e8 o, EIs.low H hr ho h2, Stp.low T h2 hbw⟩
set_option maxHeartbeats 4000000 in
set_option maxRecDepth 100000 in
theorem ask_ok (base r : Nat) (ok : Nat → Prop) (v : Value) (s : ES) (t x y z : Int) (w : World) (h : EIs base ok w r v s) (m : Nat) (hf : Fine m s) (ho : ∀ k, ok k → k < w.heap.size) :
    Calls Try.prog 10 #[.pointer (some ⟨r, 0, none⟩), .int .i64 t, .agg #[.int .i64 x, .int .i64 y, .int .i64 z]] w (AskP base ok r v (askS s t x y z) w) := by
  have HB := Lib.hid (Below.refl w.heap.size w)
  have H := Lib.hid h
  have HRW := Lib.hid h.lt
  have HBW := Lib.hid (Nat.le_trans h.2.1 (Nat.le_of_lt h.lt))
  have HF := Lib.hid hf
  have HO := Lib.hid ho
  clear h hf ho
  go_enter Try.func10, Try.ntmps10
  go_upto_region 1 with (first | ((with_reducible refine gate_dst (N := 5) rfl ?_); refine box_event ?hg (N := 5) ?hd (cs := #[.int .i64 x, .int .i64 y, .int .i64 z]) (t := 34) ?hr ?_; (case hd => rfl); (case hg => rfl); (case hr => first | (go_simp; done) | (go_simp; rfl)); intro ga hg w1 hbox hb; have h_ := H.out.kept hb; clear H; have H := Lib.hid h_; clear h_; have hga := Lib.hid (Nat.le_of_eq hg.symm); have hb_ := below_step HB.out hb; clear HB; have HB := Lib.hid hb_; have HG := Lib.hid hbox; have q0 : World.cell? w1 ⟨ga, 0, none⟩ = some (.int .i64 x) := (blk_cell hbox 0).trans rfl; have qf0 := blk_frozen hbox 0; have q1 : World.cell? w1 ⟨ga, 1, none⟩ = some (.int .i64 y) := (blk_cell hbox 1).trans rfl; have qf1 := blk_frozen hbox 1; have q2 : World.cell? w1 ⟨ga, 2, none⟩ = some (.int .i64 z) := (blk_cell hbox 2).trans rfl; have qf2 := blk_frozen hbox 2; clear hbox hb hb_ hg) | ((with_reducible refine gate_dst (N := 6) rfl ?_); refine box_event ?hg (N := 6) ?hd (cs := #[.int .i64 0, .int .i64 0, .int .i64 0, .int .i64 0, .int .i64 0, .int .i64 0, .bool false, .int .i64 0, .int .i64 0]) (t := 38) ?hr ?_; (case hd => rfl); (case hg => rfl); (case hr => first | (go_simp; done) | (go_simp; rfl)); intro gb hg w1 hbox hb; have h_ := H.out.kept hb; clear H; have H := Lib.hid h_; clear h_; have g_ := blk_below HG.out hb; clear HG; have HG := Lib.hid g_; clear g_; have hg2 := Lib.hid (Nat.le_trans HB.out.size (Nat.le_of_eq hg.symm)); have hb_ := below_step HB.out hb; clear HB; have HB := Lib.hid hb_; have hX := Lib.hid hbox; clear hbox hb hb_ hg))
  have HS := Lib.hid (Stp.of_below (r := r) HB.out HBW.out)
  clear HB
  have c1 := H.out.cells.2.1
  have q0 := (blk_cell HG.out 0).trans (rfl : _ = some (Value.int .i64 x))
  by_cases g1 : x < 0
  · have y0 : w1.cell? ⟨gb, 0, none⟩ = some (.int .i64 0) := (blk_cell hX.out 0).trans rfl
    have yf0 := blk_frozen hX.out 0
    have y1 : w1.cell? ⟨gb, 1, none⟩ = some (.int .i64 0) := (blk_cell hX.out 1).trans rfl
    have yf1 := blk_frozen hX.out 1
    have y2 : w1.cell? ⟨gb, 2, none⟩ = some (.int .i64 0) := (blk_cell hX.out 2).trans rfl
    have yf2 := blk_frozen hX.out 2
    have y3 : w1.cell? ⟨gb, 3, none⟩ = some (.int .i64 0) := (blk_cell hX.out 3).trans rfl
    have yf3 := blk_frozen hX.out 3
    have y4 : w1.cell? ⟨gb, 4, none⟩ = some (.int .i64 0) := (blk_cell hX.out 4).trans rfl
    have yf4 := blk_frozen hX.out 4
    have y5 : w1.cell? ⟨gb, 5, none⟩ = some (.int .i64 0) := (blk_cell hX.out 5).trans rfl
    have yf5 := blk_frozen hX.out 5
    have y6 : w1.cell? ⟨gb, 6, none⟩ = some (.bool false) := (blk_cell hX.out 6).trans rfl
    have yf6 := blk_frozen hX.out 6
    have y7 : w1.cell? ⟨gb, 7, none⟩ = some (.int .i64 0) := (blk_cell hX.out 7).trans rfl
    have yf7 := blk_frozen hX.out 7
    have y8 : w1.cell? ⟨gb, 8, none⟩ = some (.int .i64 0) := (blk_cell hX.out 8).trans rfl
    have yf8 := blk_frozen hX.out 8
    go_quiet (fail)
    go_wp2
    refine bodyPost_ret (results_ct rfl _ _ gb 38 #[.int .i64 0, .int .i64 0, .int .i64 0, .int .i64 0, .int .i64 0, .int .i64 0, .bool false, .int .i64 0, .int .i64 0] (0, 0) _ rfl (blk_put (blk_put (blk_put (blk_put (blk_put (blk_put (blk_put (blk_put (blk_put (blk_drewN hX.out _) 0 _ rfl) 1 _ rfl) 2 _ rfl) 3 _ rfl) 4 _ rfl) 5 _ rfl) 6 _ rfl) 7 _ rfl) 8 _ rfl) Try.underlying38 rfl (by kernel_rfl)) rfl ?_
    exact askP_no (.inl g1) rfl H.out HS.out HRW.out HO.out HBW.out (bset (bset (bset (bset (bset (bset (bset (bset (bset (pw_below_drewN (Below.refl _ _) _) hg2.out) hg2.out) hg2.out) hg2.out) hg2.out) hg2.out) hg2.out) hg2.out) hg2.out)
  by_cases g2 : s.n ≤ x
  · have y0 : w1.cell? ⟨gb, 0, none⟩ = some (.int .i64 0) := (blk_cell hX.out 0).trans rfl
    have yf0 := blk_frozen hX.out 0
    have y1 : w1.cell? ⟨gb, 1, none⟩ = some (.int .i64 0) := (blk_cell hX.out 1).trans rfl
    have yf1 := blk_frozen hX.out 1
    have y2 : w1.cell? ⟨gb, 2, none⟩ = some (.int .i64 0) := (blk_cell hX.out 2).trans rfl
    have yf2 := blk_frozen hX.out 2
    have y3 : w1.cell? ⟨gb, 3, none⟩ = some (.int .i64 0) := (blk_cell hX.out 3).trans rfl
    have yf3 := blk_frozen hX.out 3
    have y4 : w1.cell? ⟨gb, 4, none⟩ = some (.int .i64 0) := (blk_cell hX.out 4).trans rfl
    have yf4 := blk_frozen hX.out 4
    have y5 : w1.cell? ⟨gb, 5, none⟩ = some (.int .i64 0) := (blk_cell hX.out 5).trans rfl
    have yf5 := blk_frozen hX.out 5
    have y6 : w1.cell? ⟨gb, 6, none⟩ = some (.bool false) := (blk_cell hX.out 6).trans rfl
    have yf6 := blk_frozen hX.out 6
    have y7 : w1.cell? ⟨gb, 7, none⟩ = some (.int .i64 0) := (blk_cell hX.out 7).trans rfl
    have yf7 := blk_frozen hX.out 7
    have y8 : w1.cell? ⟨gb, 8, none⟩ = some (.int .i64 0) := (blk_cell hX.out 8).trans rfl
    have yf8 := blk_frozen hX.out 8
    go_quiet (fail)
    go_wp2
    refine bodyPost_ret (results_ct rfl _ _ gb 38 #[.int .i64 0, .int .i64 0, .int .i64 0, .int .i64 0, .int .i64 0, .int .i64 0, .bool false, .int .i64 0, .int .i64 0] (0, 0) _ rfl (blk_put (blk_put (blk_put (blk_put (blk_put (blk_put (blk_put (blk_put (blk_put (blk_drewN hX.out _) 0 _ rfl) 1 _ rfl) 2 _ rfl) 3 _ rfl) 4 _ rfl) 5 _ rfl) 6 _ rfl) 7 _ rfl) 8 _ rfl) Try.underlying38 rfl (by kernel_rfl)) rfl ?_
    exact askP_no (.inr g2) rfl H.out HS.out HRW.out HO.out HBW.out (bset (bset (bset (bset (bset (bset (bset (bset (bset (pw_below_drewN (Below.refl _ _) _) hg2.out) hg2.out) hg2.out) hg2.out) hg2.out) hg2.out) hg2.out) hg2.out) hg2.out)
  go_quiet (fail)
  refine world_gen (P := fun w5 => EIs base ok w5 r v s ∧ Stp base r w w5 ∧ w5.heap[ga]? = some (.cells #[.int .i64 x, .int .i64 y, .int .i64 z] 34 (0, 0)) ∧ w5.heap[gb]? = some (.cells #[.int .i64 0, .int .i64 0, .int .i64 0, .int .i64 0, .int .i64 0, .int .i64 0, .bool false, .int .i64 0, .int .i64 0] 38 (0, 0))) ⟨H.out.kept (pw_below_drewN (Below.refl _ _) _), HS.out.below H.out (pw_below_drewN (Below.refl _ _) _), HG.out, hX.out⟩ (fun w5 h5 => ?_)
  clear H HS HG hX c1 q0
  have H := Lib.hid h5.1
  have HS := Lib.hid h5.2.1
  have HG := Lib.hid h5.2.2.1
  have hX := Lib.hid h5.2.2.2
  clear h5
  obtain ⟨s1, hs1⟩ : ∃ x, toldS s t = x := ⟨_, rfl⟩
  have HS1 := Lib.hid hs1
  clear hs1
  go_upto_region 4 with (first | ((with_reducible go_at_call 29); (have q_ := H; clear q_); go_must (refine (told_ok base r ok v s t _ H.out).mono ?_; rintro e w1 ⟨rfl, h, hb, hk⟩; have H1 : Hid (EIs base ok w1 r v s1) := Lib.hid (by rw [← HS1.out]; exact h); have HT1 : Hid (Stp base r w w1) := Lib.hid (HS.out.trans ⟨hb, hk⟩); have HG1 := Lib.hid (kept_blk hk HG.out HRW.out hga.out); have hX1 := Lib.hid (kept_blk hk hX.out HRW.out hg2.out); clear H HS HG hX h hb hk)))
  obtain ⟨r1, r2, r3, r4, r5, r6, r7, r8, hr⟩ : ∃ r1 r2 r3 r4 r5 r6 r7 r8, hearS s1.ve s1.vh s1.vu s1.vs s1.now s1.lease x y z = (r1, r2, r3, r4, r5, r6, r7, r8) := ⟨_, _, _, _, _, _, _, _, rfl⟩
  have hx : Hid (ballot_Hear.f 1 s1.ve s1.vh s1.vu s1.vs s1.now s1.lease x y z = some (r1, r2, r3, r4, r5, r6, r7, r8)) := Lib.hid (by rw [hear_is, hr])
  have HR := Lib.hid hr
  clear hr
  have c5 := H1.out.cells.2.2.2.2.2.1
  have c6 := H1.out.cells.2.2.2.2.2.2.1
  have c7 := H1.out.cells.2.2.2.2.2.2.2.1
  have c8 := H1.out.cells.2.2.2.2.2.2.2.2.1
  have c4 := H1.out.cells.2.2.2.2.1
  have c2 := H1.out.cells.2.2.1
  have q0 := (blk_cell HG1.out 0).trans (rfl : _ = some (Value.int .i64 x))
  have q1 := (blk_cell HG1.out 1).trans (rfl : _ = some (Value.int .i64 y))
  have q2 := (blk_cell HG1.out 2).trans (rfl : _ = some (Value.int .i64 z))
  have RL := Lib.hid H1.out.lt
  have GL := Lib.hid (blk_lt HG1.out)
  have H1B : Hid (w1.heap[r]? = some (.cells (cellsE s1 v) 58 (0, 0))) := Lib.hid H1.out.1
  go_upto_region 5 with (fail)
  go_cut [9, 10] (fun u9 u10 wc => ∃ g9 g10, u9 = .pointer (some ⟨g9, 0, none⟩) ∧ u10 = .pointer (some ⟨g10, 0, none⟩) ∧ Hid (wc.heap[g9]? = some (.cells #[.int .i64 r1, .int .i64 r2, .int .i64 r3, .int .i64 r4] 48 (0, 0))) ∧ Hid (wc.heap[g10]? = some (.cells #[.int .i64 r5, .bool r6, .int .i64 r7, .int .i64 r8] 36 (0, 0))) ∧ Hid (Below w1.heap.size w1 wc) ∧ Hid (w1.heap.size ≤ g9 ∧ w1.heap.size ≤ g10 ∧ g9 ≠ g10))
  case first =>
    go_region_held3 (fun w2 => w2.cell? ⟨r, 5, none⟩ = some (.int .i64 s1.ve) ∧ w2.cell? ⟨r, 6, none⟩ = some (.int .i64 s1.vh) ∧ w2.cell? ⟨r, 7, none⟩ = some (.int .i64 s1.vu) ∧ w2.cell? ⟨r, 8, none⟩ = some (.int .i64 s1.vs) ∧ w2.cell? ⟨r, 4, none⟩ = some (.int .i64 s1.now) ∧ w2.cell? ⟨r, 2, none⟩ = some (.int .i64 s1.lease) ∧ w2.cell? ⟨ga, 0, none⟩ = some (.int .i64 x) ∧ w2.cell? ⟨ga, 1, none⟩ = some (.int .i64 y) ∧ w2.cell? ⟨ga, 2, none⟩ = some (.int .i64 z)) (refine cel_of (s1 := s1) (v := v) ?_ ?_ <;> (repeat (first | with_reducible exact H1B.out | with_reducible exact HG1.out | with_reducible refine blk_drew ?_ | with_reducible refine blk_alloc ?_ _ | with_reducible refine blk_far ?_ (by dsimp only; have := RL.out; have := GL.out; (try have := HZ.out); omega) _ | with_reducible refine blk_below ?_ hbl.out))) (first | (go_simp; (with_reducible go_at_call 30); go_must (refine (ballot_Hear.calls 1 _ _ _ _ _ _ _ _ _ r1 r2 r3 r4 r5 r6 r7 r8 _ hx.out).mono ?_; rintro e w3 ⟨rfl, hb⟩; obtain ⟨hc3, hf3⟩ := bcell hb; (first | ((have e_ : Below w1.drew.heap.size w1.drew w3 := (by with_reducible exact hb)); clear e_; skip) | ((have e_ : Below (w1.alloc (.cells #[.int .i64 0, .int .i64 0, .int .i64 0, .int .i64 0] 48)).drew.heap.size (w1.alloc (.cells #[.int .i64 0, .int .i64 0, .int .i64 0, .int .i64 0] 48)).drew w3 := (by with_reducible exact hb)); clear e_; have y0 : w3.cell? ⟨w1.heap.size, 0, none⟩ = some (.int .i64 0) := (hc3 _ _ (by first | (simp; done) | (simp; omega))).trans ((blk_cell (blk_drew (blk_new w1 (.cells #[.int .i64 0, .int .i64 0, .int .i64 0, .int .i64 0] 48))) 0).trans rfl); have yf0 : w3.frozen? ⟨w1.heap.size, 0, none⟩ = false := (hf3 _ _ (by first | (simp; done) | (simp; omega))).trans (blk_frozen (blk_drew (blk_new w1 (.cells #[.int .i64 0, .int .i64 0, .int .i64 0, .int .i64 0] 48))) 0); have y1 : w3.cell? ⟨w1.heap.size, 1, none⟩ = some (.int .i64 0) := (hc3 _ _ (by first | (simp; done) | (simp; omega))).trans ((blk_cell (blk_drew (blk_new w1 (.cells #[.int .i64 0, .int .i64 0, .int .i64 0, .int .i64 0] 48))) 1).trans rfl); have yf1 : w3.frozen? ⟨w1.heap.size, 1, none⟩ = false := (hf3 _ _ (by first | (simp; done) | (simp; omega))).trans (blk_frozen (blk_drew (blk_new w1 (.cells #[.int .i64 0, .int .i64 0, .int .i64 0, .int .i64 0] 48))) 1); have y2 : w3.cell? ⟨w1.heap.size, 2, none⟩ = some (.int .i64 0) := (hc3 _ _ (by first | (simp; done) | (simp; omega))).trans ((blk_cell (blk_drew (blk_new w1 (.cells #[.int .i64 0, .int .i64 0, .int .i64 0, .int .i64 0] 48))) 2).trans rfl); have yf2 : w3.frozen? ⟨w1.heap.size, 2, none⟩ = false := (hf3 _ _ (by first | (simp; done) | (simp; omega))).trans (blk_frozen (blk_drew (blk_new w1 (.cells #[.int .i64 0, .int .i64 0, .int .i64 0, .int .i64 0] 48))) 2); have y3 : w3.cell? ⟨w1.heap.size, 3, none⟩ = some (.int .i64 0) := (hc3 _ _ (by first | (simp; done) | (simp; omega))).trans ((blk_cell (blk_drew (blk_new w1 (.cells #[.int .i64 0, .int .i64 0, .int .i64 0, .int .i64 0] 48))) 3).trans rfl); have yf3 : w3.frozen? ⟨w1.heap.size, 3, none⟩ = false := (hf3 _ _ (by first | (simp; done) | (simp; omega))).trans (blk_frozen (blk_drew (blk_new w1 (.cells #[.int .i64 0, .int .i64 0, .int .i64 0, .int .i64 0] 48))) 3)) | ((have e_ : Below (w1.alloc (.cells #[.int .i64 0, .bool false, .int .i64 0, .int .i64 0] 36)).drew.heap.size (w1.alloc (.cells #[.int .i64 0, .bool false, .int .i64 0, .int .i64 0] 36)).drew w3 := (by with_reducible exact hb)); clear e_; have y0 : w3.cell? ⟨w1.heap.size, 0, none⟩ = some (.int .i64 0) := (hc3 _ _ (by first | (simp; done) | (simp; omega))).trans ((blk_cell (blk_drew (blk_new w1 (.cells #[.int .i64 0, .bool false, .int .i64 0, .int .i64 0] 36))) 0).trans rfl); have yf0 : w3.frozen? ⟨w1.heap.size, 0, none⟩ = false := (hf3 _ _ (by first | (simp; done) | (simp; omega))).trans (blk_frozen (blk_drew (blk_new w1 (.cells #[.int .i64 0, .bool false, .int .i64 0, .int .i64 0] 36))) 0); have y1 : w3.cell? ⟨w1.heap.size, 1, none⟩ = some (.bool false) := (hc3 _ _ (by first | (simp; done) | (simp; omega))).trans ((blk_cell (blk_drew (blk_new w1 (.cells #[.int .i64 0, .bool false, .int .i64 0, .int .i64 0] 36))) 1).trans rfl); have yf1 : w3.frozen? ⟨w1.heap.size, 1, none⟩ = false := (hf3 _ _ (by first | (simp; done) | (simp; omega))).trans (blk_frozen (blk_drew (blk_new w1 (.cells #[.int .i64 0, .bool false, .int .i64 0, .int .i64 0] 36))) 1); have y2 : w3.cell? ⟨w1.heap.size, 2, none⟩ = some (.int .i64 0) := (hc3 _ _ (by first | (simp; done) | (simp; omega))).trans ((blk_cell (blk_drew (blk_new w1 (.cells #[.int .i64 0, .bool false, .int .i64 0, .int .i64 0] 36))) 2).trans rfl); have yf2 : w3.frozen? ⟨w1.heap.size, 2, none⟩ = false := (hf3 _ _ (by first | (simp; done) | (simp; omega))).trans (blk_frozen (blk_drew (blk_new w1 (.cells #[.int .i64 0, .bool false, .int .i64 0, .int .i64 0] 36))) 2); have y3 : w3.cell? ⟨w1.heap.size, 3, none⟩ = some (.int .i64 0) := (hc3 _ _ (by first | (simp; done) | (simp; omega))).trans ((blk_cell (blk_drew (blk_new w1 (.cells #[.int .i64 0, .bool false, .int .i64 0, .int .i64 0] 36))) 3).trans rfl); have yf3 : w3.frozen? ⟨w1.heap.size, 3, none⟩ = false := (hf3 _ _ (by first | (simp; done) | (simp; omega))).trans (blk_frozen (blk_drew (blk_new w1 (.cells #[.int .i64 0, .bool false, .int .i64 0, .int .i64 0] 36))) 3)) | ((have e_ : Below ((w1.alloc (.cells #[.int .i64 0, .int .i64 0, .int .i64 0, .int .i64 0] 48)).alloc (.cells #[.int .i64 0, .bool false, .int .i64 0, .int .i64 0] 36)).drew.heap.size ((w1.alloc (.cells #[.int .i64 0, .int .i64 0, .int .i64 0, .int .i64 0] 48)).alloc (.cells #[.int .i64 0, .bool false, .int .i64 0, .int .i64 0] 36)).drew w3 := (by with_reducible exact hb)); clear e_; have y0 : w3.cell? ⟨w1.heap.size, 0, none⟩ = some (.int .i64 0) := (hc3 _ _ (by first | (simp; done) | (simp; omega))).trans ((blk_cell (blk_drew (blk_alloc (blk_new w1 (.cells #[.int .i64 0, .int .i64 0, .int .i64 0, .int .i64 0] 48)) (.cells #[.int .i64 0, .bool false, .int .i64 0, .int .i64 0] 36))) 0).trans rfl); have yf0 : w3.frozen? ⟨w1.heap.size, 0, none⟩ = false := (hf3 _ _ (by first | (simp; done) | (simp; omega))).trans (blk_frozen (blk_drew (blk_alloc (blk_new w1 (.cells #[.int .i64 0, .int .i64 0, .int .i64 0, .int .i64 0] 48)) (.cells #[.int .i64 0, .bool false, .int .i64 0, .int .i64 0] 36))) 0); have y1 : w3.cell? ⟨w1.heap.size, 1, none⟩ = some (.int .i64 0) := (hc3 _ _ (by first | (simp; done) | (simp; omega))).trans ((blk_cell (blk_drew (blk_alloc (blk_new w1 (.cells #[.int .i64 0, .int .i64 0, .int .i64 0, .int .i64 0] 48)) (.cells #[.int .i64 0, .bool false, .int .i64 0, .int .i64 0] 36))) 1).trans rfl); have yf1 : w3.frozen? ⟨w1.heap.size, 1, none⟩ = false := (hf3 _ _ (by first | (simp; done) | (simp; omega))).trans (blk_frozen (blk_drew (blk_alloc (blk_new w1 (.cells #[.int .i64 0, .int .i64 0, .int .i64 0, .int .i64 0] 48)) (.cells #[.int .i64 0, .bool false, .int .i64 0, .int .i64 0] 36))) 1); have y2 : w3.cell? ⟨w1.heap.size, 2, none⟩ = some (.int .i64 0) := (hc3 _ _ (by first | (simp; done) | (simp; omega))).trans ((blk_cell (blk_drew (blk_alloc (blk_new w1 (.cells #[.int .i64 0, .int .i64 0, .int .i64 0, .int .i64 0] 48)) (.cells #[.int .i64 0, .bool false, .int .i64 0, .int .i64 0] 36))) 2).trans rfl); have yf2 : w3.frozen? ⟨w1.heap.size, 2, none⟩ = false := (hf3 _ _ (by first | (simp; done) | (simp; omega))).trans (blk_frozen (blk_drew (blk_alloc (blk_new w1 (.cells #[.int .i64 0, .int .i64 0, .int .i64 0, .int .i64 0] 48)) (.cells #[.int .i64 0, .bool false, .int .i64 0, .int .i64 0] 36))) 2); have y3 : w3.cell? ⟨w1.heap.size, 3, none⟩ = some (.int .i64 0) := (hc3 _ _ (by first | (simp; done) | (simp; omega))).trans ((blk_cell (blk_drew (blk_alloc (blk_new w1 (.cells #[.int .i64 0, .int .i64 0, .int .i64 0, .int .i64 0] 48)) (.cells #[.int .i64 0, .bool false, .int .i64 0, .int .i64 0] 36))) 3).trans rfl); have yf3 : w3.frozen? ⟨w1.heap.size, 3, none⟩ = false := (hf3 _ _ (by first | (simp; done) | (simp; omega))).trans (blk_frozen (blk_drew (blk_alloc (blk_new w1 (.cells #[.int .i64 0, .int .i64 0, .int .i64 0, .int .i64 0] 48)) (.cells #[.int .i64 0, .bool false, .int .i64 0, .int .i64 0] 36))) 3); have z0 : w3.cell? ⟨w1.heap.size + 1, 0, none⟩ = some (.int .i64 0) := (hc3 _ _ (by first | (simp; done) | (simp; omega))).trans ((blk_cell (blk_drew (blk_new2 w1 (.cells #[.int .i64 0, .int .i64 0, .int .i64 0, .int .i64 0] 48) (.cells #[.int .i64 0, .bool false, .int .i64 0, .int .i64 0] 36))) 0).trans rfl); have zf0 : w3.frozen? ⟨w1.heap.size + 1, 0, none⟩ = false := (hf3 _ _ (by first | (simp; done) | (simp; omega))).trans (blk_frozen (blk_drew (blk_new2 w1 (.cells #[.int .i64 0, .int .i64 0, .int .i64 0, .int .i64 0] 48) (.cells #[.int .i64 0, .bool false, .int .i64 0, .int .i64 0] 36))) 0); have z1 : w3.cell? ⟨w1.heap.size + 1, 1, none⟩ = some (.bool false) := (hc3 _ _ (by first | (simp; done) | (simp; omega))).trans ((blk_cell (blk_drew (blk_new2 w1 (.cells #[.int .i64 0, .int .i64 0, .int .i64 0, .int .i64 0] 48) (.cells #[.int .i64 0, .bool false, .int .i64 0, .int .i64 0] 36))) 1).trans rfl); have zf1 : w3.frozen? ⟨w1.heap.size + 1, 1, none⟩ = false := (hf3 _ _ (by first | (simp; done) | (simp; omega))).trans (blk_frozen (blk_drew (blk_new2 w1 (.cells #[.int .i64 0, .int .i64 0, .int .i64 0, .int .i64 0] 48) (.cells #[.int .i64 0, .bool false, .int .i64 0, .int .i64 0] 36))) 1); have z2 : w3.cell? ⟨w1.heap.size + 1, 2, none⟩ = some (.int .i64 0) := (hc3 _ _ (by first | (simp; done) | (simp; omega))).trans ((blk_cell (blk_drew (blk_new2 w1 (.cells #[.int .i64 0, .int .i64 0, .int .i64 0, .int .i64 0] 48) (.cells #[.int .i64 0, .bool false, .int .i64 0, .int .i64 0] 36))) 2).trans rfl); have zf2 : w3.frozen? ⟨w1.heap.size + 1, 2, none⟩ = false := (hf3 _ _ (by first | (simp; done) | (simp; omega))).trans (blk_frozen (blk_drew (blk_new2 w1 (.cells #[.int .i64 0, .int .i64 0, .int .i64 0, .int .i64 0] 48) (.cells #[.int .i64 0, .bool false, .int .i64 0, .int .i64 0] 36))) 2); have z3 : w3.cell? ⟨w1.heap.size + 1, 3, none⟩ = some (.int .i64 0) := (hc3 _ _ (by first | (simp; done) | (simp; omega))).trans ((blk_cell (blk_drew (blk_new2 w1 (.cells #[.int .i64 0, .int .i64 0, .int .i64 0, .int .i64 0] 48) (.cells #[.int .i64 0, .bool false, .int .i64 0, .int .i64 0] 36))) 3).trans rfl); have zf3 : w3.frozen? ⟨w1.heap.size + 1, 3, none⟩ = false := (hf3 _ _ (by first | (simp; done) | (simp; omega))).trans (blk_frozen (blk_drew (blk_new2 w1 (.cells #[.int .i64 0, .int .i64 0, .int .i64 0, .int .i64 0] 48) (.cells #[.int .i64 0, .bool false, .int .i64 0, .int .i64 0] 36))) 3)) | ((have e_ : Below ((w1.alloc (.cells #[.int .i64 0, .bool false, .int .i64 0, .int .i64 0] 36)).alloc (.cells #[.int .i64 0, .int .i64 0, .int .i64 0, .int .i64 0] 48)).drew.heap.size ((w1.alloc (.cells #[.int .i64 0, .bool false, .int .i64 0, .int .i64 0] 36)).alloc (.cells #[.int .i64 0, .int .i64 0, .int .i64 0, .int .i64 0] 48)).drew w3 := (by with_reducible exact hb)); clear e_; have y0 : w3.cell? ⟨w1.heap.size, 0, none⟩ = some (.int .i64 0) := (hc3 _ _ (by first | (simp; done) | (simp; omega))).trans ((blk_cell (blk_drew (blk_alloc (blk_new w1 (.cells #[.int .i64 0, .bool false, .int .i64 0, .int .i64 0] 36)) (.cells #[.int .i64 0, .int .i64 0, .int .i64 0, .int .i64 0] 48))) 0).trans rfl); have yf0 : w3.frozen? ⟨w1.heap.size, 0, none⟩ = false := (hf3 _ _ (by first | (simp; done) | (simp; omega))).trans (blk_frozen (blk_drew (blk_alloc (blk_new w1 (.cells #[.int .i64 0, .bool false, .int .i64 0, .int .i64 0] 36)) (.cells #[.int .i64 0, .int .i64 0, .int .i64 0, .int .i64 0] 48))) 0); have y1 : w3.cell? ⟨w1.heap.size, 1, none⟩ = some (.bool false) := (hc3 _ _ (by first | (simp; done) | (simp; omega))).trans ((blk_cell (blk_drew (blk_alloc (blk_new w1 (.cells #[.int .i64 0, .bool false, .int .i64 0, .int .i64 0] 36)) (.cells #[.int .i64 0, .int .i64 0, .int .i64 0, .int .i64 0] 48))) 1).trans rfl); have yf1 : w3.frozen? ⟨w1.heap.size, 1, none⟩ = false := (hf3 _ _ (by first | (simp; done) | (simp; omega))).trans (blk_frozen (blk_drew (blk_alloc (blk_new w1 (.cells #[.int .i64 0, .bool false, .int .i64 0, .int .i64 0] 36)) (.cells #[.int .i64 0, .int .i64 0, .int .i64 0, .int .i64 0] 48))) 1); have y2 : w3.cell? ⟨w1.heap.size, 2, none⟩ = some (.int .i64 0) := (hc3 _ _ (by first | (simp; done) | (simp; omega))).trans ((blk_cell (blk_drew (blk_alloc (blk_new w1 (.cells #[.int .i64 0, .bool false, .int .i64 0, .int .i64 0] 36)) (.cells #[.int .i64 0, .int .i64 0, .int .i64 0, .int .i64 0] 48))) 2).trans rfl); have yf2 : w3.frozen? ⟨w1.heap.size, 2, none⟩ = false := (hf3 _ _ (by first | (simp; done) | (simp; omega))).trans (blk_frozen (blk_drew (blk_alloc (blk_new w1 (.cells #[.int .i64 0, .bool false, .int .i64 0, .int .i64 0] 36)) (.cells #[.int .i64 0, .int .i64 0, .int .i64 0, .int .i64 0] 48))) 2); have y3 : w3.cell? ⟨w1.heap.size, 3, none⟩ = some (.int .i64 0) := (hc3 _ _ (by first | (simp; done) | (simp; omega))).trans ((blk_cell (blk_drew (blk_alloc (blk_new w1 (.cells #[.int .i64 0, .bool false, .int .i64 0, .int .i64 0] 36)) (.cells #[.int .i64 0, .int .i64 0, .int .i64 0, .int .i64 0] 48))) 3).trans rfl); have yf3 : w3.frozen? ⟨w1.heap.size, 3, none⟩ = false := (hf3 _ _ (by first | (simp; done) | (simp; omega))).trans (blk_frozen (blk_drew (blk_alloc (blk_new w1 (.cells #[.int .i64 0, .bool false, .int .i64 0, .int .i64 0] 36)) (.cells #[.int .i64 0, .int .i64 0, .int .i64 0, .int .i64 0] 48))) 3); have z0 : w3.cell? ⟨w1.heap.size + 1, 0, none⟩ = some (.int .i64 0) := (hc3 _ _ (by first | (simp; done) | (simp; omega))).trans ((blk_cell (blk_drew (blk_new2 w1 (.cells #[.int .i64 0, .bool false, .int .i64 0, .int .i64 0] 36) (.cells #[.int .i64 0, .int .i64 0, .int .i64 0, .int .i64 0] 48))) 0).trans rfl); have zf0 : w3.frozen? ⟨w1.heap.size + 1, 0, none⟩ = false := (hf3 _ _ (by first | (simp; done) | (simp; omega))).trans (blk_frozen (blk_drew (blk_new2 w1 (.cells #[.int .i64 0, .bool false, .int .i64 0, .int .i64 0] 36) (.cells #[.int .i64 0, .int .i64 0, .int .i64 0, .int .i64 0] 48))) 0); have z1 : w3.cell? ⟨w1.heap.size + 1, 1, none⟩ = some (.int .i64 0) := (hc3 _ _ (by first | (simp; done) | (simp; omega))).trans ((blk_cell (blk_drew (blk_new2 w1 (.cells #[.int .i64 0, .bool false, .int .i64 0, .int .i64 0] 36) (.cells #[.int .i64 0, .int .i64 0, .int .i64 0, .int .i64 0] 48))) 1).trans rfl); have zf1 : w3.frozen? ⟨w1.heap.size + 1, 1, none⟩ = false := (hf3 _ _ (by first | (simp; done) | (simp; omega))).trans (blk_frozen (blk_drew (blk_new2 w1 (.cells #[.int .i64 0, .bool false, .int .i64 0, .int .i64 0] 36) (.cells #[.int .i64 0, .int .i64 0, .int .i64 0, .int .i64 0] 48))) 1); have z2 : w3.cell? ⟨w1.heap.size + 1, 2, none⟩ = some (.int .i64 0) := (hc3 _ _ (by first | (simp; done) | (simp; omega))).trans ((blk_cell (blk_drew (blk_new2 w1 (.cells #[.int .i64 0, .bool false, .int .i64 0, .int .i64 0] 36) (.cells #[.int .i64 0, .int .i64 0, .int .i64 0, .int .i64 0] 48))) 2).trans rfl); have zf2 : w3.frozen? ⟨w1.heap.size + 1, 2, none⟩ = false := (hf3 _ _ (by first | (simp; done) | (simp; omega))).trans (blk_frozen (blk_drew (blk_new2 w1 (.cells #[.int .i64 0, .bool false, .int .i64 0, .int .i64 0] 36) (.cells #[.int .i64 0, .int .i64 0, .int .i64 0, .int .i64 0] 48))) 2); have z3 : w3.cell? ⟨w1.heap.size + 1, 3, none⟩ = some (.int .i64 0) := (hc3 _ _ (by first | (simp; done) | (simp; omega))).trans ((blk_cell (blk_drew (blk_new2 w1 (.cells #[.int .i64 0, .bool false, .int .i64 0, .int .i64 0] 36) (.cells #[.int .i64 0, .int .i64 0, .int .i64 0, .int .i64 0] 48))) 3).trans rfl); have zf3 : w3.frozen? ⟨w1.heap.size + 1, 3, none⟩ = false := (hf3 _ _ (by first | (simp; done) | (simp; omega))).trans (blk_frozen (blk_drew (blk_new2 w1 (.cells #[.int .i64 0, .bool false, .int .i64 0, .int .i64 0] 36) (.cells #[.int .i64 0, .int .i64 0, .int .i64 0, .int .i64 0] 48))) 3))); clear hc3 hf3; have hz3 := hb.size; (try simp at hz3); have HZ := Lib.hid hz3; (try have hzl : w1.heap.size < w3.heap.size := by omega); (try have hzm : w1.heap.size + 1 < w3.heap.size := by omega); have hbl := Lib.hid hb; clear hb)))
    all_goals
      go_wp2
      go_meet
      case rel => exact ⟨_, _, rfl, rfl, Lib.hid (by repeat' (first | with_reducible exact blk_new _ _ | with_reducible exact blk_new2 _ _ _ | with_reducible refine blk_drew ?_ | ((with_reducible refine blk_newS ?_); simp; done) | with_reducible refine blk_alloc ?_ _ | with_reducible refine blk_put48 ?_ _ _ _ _ | with_reducible refine blk_put36 ?_ _ _ _ _ | ((with_reducible refine blk_far ?_ ?_ _); rotate_left; (dsimp only; (try have := HZ.out); omega)) | with_reducible refine blk_below ?_ hbl.out)), Lib.hid (by repeat' (first | with_reducible exact blk_new _ _ | with_reducible exact blk_new2 _ _ _ | with_reducible refine blk_drew ?_ | ((with_reducible refine blk_newS ?_); simp; done) | with_reducible refine blk_alloc ?_ _ | with_reducible refine blk_put48 ?_ _ _ _ _ | with_reducible refine blk_put36 ?_ _ _ _ _ | ((with_reducible refine blk_far ?_ ?_ _); rotate_left; (dsimp only; (try have := HZ.out); omega)) | with_reducible refine blk_below ?_ hbl.out)), Lib.hid (by repeat' (first | with_reducible exact Below.refl _ _ | with_reducible refine below_drew1 ?_ | with_reducible refine below_alloc ?_ _ | with_reducible refine below_set ?_ ?_ | ((try have := HZ.out); omega) | with_reducible refine below_step ?_ hbl.out)), Lib.hid ⟨by ((try have := HZ.out); omega), by ((try have := HZ.out); omega), by ((try have := HZ.out); omega)⟩⟩
  case rest =>
  obtain ⟨g9, g10, rfl, rfl, HG9, HG10, HBC, HGE⟩ := hcut
  have HC := Lib.hid (H1.out.kept HBC.out)
  have HGC := Lib.hid (blk_below HG1.out HBC.out)
  have hXC := Lib.hid (blk_below hX1.out HBC.out)
  have HTC := Lib.hid (HT1.out.below H1.out HBC.out)
  have HE : Hid (w.heap.size ≤ g9 ∧ w.heap.size ≤ g10 ∧ r < g9 ∧ r < g10 ∧ gb < g10 ∧ ga < g10 ∧ gb < g9) := Lib.hid (by
    have a1 := HGE.out
    have a2 := HT1.out.2.1
    have a3 := H1.out.lt
    have a4 := blk_lt HG1.out
    have a5 := blk_lt hX1.out
    omega)
  clear H1 HG1 hX1 HT1 HBC
  have c0 := HC.out.cells.1
  have c5 := HC.out.cells.2.2.2.2.2.1
  have c6 := HC.out.cells.2.2.2.2.2.2.1
  have c7 := HC.out.cells.2.2.2.2.2.2.2.1
  have c8 := HC.out.cells.2.2.2.2.2.2.2.2.1
  have f5 := HC.out.free 5
  have f6 := HC.out.free 6
  have f7 := HC.out.free 7
  have f8 := HC.out.free 8
  have x0 := (blk_cell HG9.out 0).trans (rfl : _ = some (Value.int .i64 r1))
  have x1 := (blk_cell HG9.out 1).trans (rfl : _ = some (Value.int .i64 r2))
  have x2 := (blk_cell HG9.out 2).trans (rfl : _ = some (Value.int .i64 r3))
  have x3 := (blk_cell HG9.out 3).trans (rfl : _ = some (Value.int .i64 r4))
  have y0 := (blk_cell HG10.out 0).trans (rfl : _ = some (Value.int .i64 r5))
  have yf0 := blk_frozen HG10.out 0
  have n1 : ¬ r = g10 := by have := HE.out; omega
  have n2 : ¬ g10 = r := by have := HE.out; omega
  have n3 : ¬ g9 = g10 := HGE.out.2.2
  have n4 : ¬ r = g9 := by have := HE.out; omega
  go_upto_region 6 with (fail)
  go_cut [59] (fun _ w6 => EIs base ok w6 r v { s1 with ve := r1, vh := r2, vu := r3, vs := r4 } ∧ Stp base r w w6 ∧ w6.heap[g9]? = some (.cells #[.int .i64 r1, .int .i64 r2, .int .i64 r3, .int .i64 r4] 48 (0, 0)) ∧ w6.heap[g10]? = some (.cells #[.int .i64 s1.me, .bool r6, .int .i64 r7, .int .i64 r8] 36 (0, 0)) ∧ w6.heap[ga]? = some (.cells #[.int .i64 x, .int .i64 y, .int .i64 z] 34 (0, 0)) ∧ w6.heap[gb]? = some (.cells #[.int .i64 0, .int .i64 0, .int .i64 0, .int .i64 0, .int .i64 0, .int .i64 0, .bool false, .int .i64 0, .int .i64 0] 38 (0, 0)))
  case first =>
    go_region_law (first | fail)
    all_goals
      obtain ⟨v1, v2, v3⟩ := vote_put HC.out r1 r2 r3 r4
      have v4 := bset (B := w.heap.size) (j := 0) (u := .int .i64 s1.me) (Below.refl _ ((((wc.setCell ⟨r, 5, none⟩ (.int .i64 r1)).setCell ⟨r, 6, none⟩ (.int .i64 r2)).setCell ⟨r, 7, none⟩ (.int .i64 r3)).setCell ⟨r, 8, none⟩ (.int .i64 r4))) HE.out.2.1
      go_wp2
      go_meet
      case rel => exact ⟨EIs.low v1 HRW.out HO.out v4.drew, Stp.low (HTC.out.trans ⟨v2, v3⟩) v4.drew HBW.out, blk_drew (blk_far (kept_blk v3 HG9.out HRW.out HE.out.1) n3 _), blk_drew (blk_put (kept_blk v3 HG10.out HRW.out HE.out.2.1) 0 _ rfl), blk_drew (blk_far (kept_blk v3 HGC.out HRW.out hga.out) (by have := HE.out; show ga ≠ g10; omega) _), blk_drew (blk_far (kept_blk v3 hXC.out HRW.out hg2.out) (by have := HE.out; show gb ≠ g10; omega) _)⟩
  case rest =>
    have h6 := hcut
    clear hcut
    clear HC HTC HG9 HG10 HGC hXC c0 c5 c6 c7 c8 f5 f6 f7 f8 x0 x1 x2 x3 y0 yf0 n1 n2 n3 n4
    have HH := Lib.hid h6.1
    have HT := Lib.hid h6.2.1
    have HXB := Lib.hid h6.2.2.2.2.2
    have x0 := (blk_cell h6.2.2.1 0).trans (rfl : _ = some (Value.int .i64 r1))
    have t0 := (blk_cell h6.2.2.2.1 0).trans (rfl : _ = some (Value.int .i64 s1.me))
    have t1 := (blk_cell h6.2.2.2.1 1).trans (rfl : _ = some (Value.bool r6))
    have t2 := (blk_cell h6.2.2.2.1 2).trans (rfl : _ = some (Value.int .i64 r7))
    have t3 := (blk_cell h6.2.2.2.1 3).trans (rfl : _ = some (Value.int .i64 r8))
    have q0 := (blk_cell h6.2.2.2.2.1 0).trans (rfl : _ = some (Value.int .i64 x))
    have y0 : wc.cell? ⟨gb, 0, none⟩ = some (.int .i64 0) := (blk_cell HXB.out 0).trans rfl
    have yf0 := blk_frozen HXB.out 0
    have y1 : wc.cell? ⟨gb, 1, none⟩ = some (.int .i64 0) := (blk_cell HXB.out 1).trans rfl
    have yf1 := blk_frozen HXB.out 1
    have y2 : wc.cell? ⟨gb, 2, none⟩ = some (.int .i64 0) := (blk_cell HXB.out 2).trans rfl
    have yf2 := blk_frozen HXB.out 2
    have y3 : wc.cell? ⟨gb, 3, none⟩ = some (.int .i64 0) := (blk_cell HXB.out 3).trans rfl
    have yf3 := blk_frozen HXB.out 3
    have y4 : wc.cell? ⟨gb, 4, none⟩ = some (.int .i64 0) := (blk_cell HXB.out 4).trans rfl
    have yf4 := blk_frozen HXB.out 4
    have y5 : wc.cell? ⟨gb, 5, none⟩ = some (.int .i64 0) := (blk_cell HXB.out 5).trans rfl
    have yf5 := blk_frozen HXB.out 5
    have y6 : wc.cell? ⟨gb, 6, none⟩ = some (.bool false) := (blk_cell HXB.out 6).trans rfl
    have yf6 := blk_frozen HXB.out 6
    have y7 : wc.cell? ⟨gb, 7, none⟩ = some (.int .i64 0) := (blk_cell HXB.out 7).trans rfl
    have yf7 := blk_frozen HXB.out 7
    have y8 : wc.cell? ⟨gb, 8, none⟩ = some (.int .i64 0) := (blk_cell HXB.out 8).trans rfl
    have yf8 := blk_frozen HXB.out 8
    have hbl6 := blk_lt HXB.out
    have hb9 := blk_lt h6.2.2.1
    clear h6
    have fin : askS s t x y z = ({ s1 with ve := r1, vh := r2, vu := r3, vs := r4 }, ⟨x, 2, z34, ⟨s1.me, r6, r7, r8⟩⟩, if r1 = s1.ve then 0 else r1) := by
      unfold askS
      rw [if_neg (by omega), HS1.out]
      dsimp only
      rw [HR.out]
    have FIN := Lib.hid fin
    clear fin
    by_cases e : r1 = s1.ve
    · have e1 : (r1 == s1.ve) = true := beq_iff_eq.mpr e
      have E := Lib.hid e
      clear e
      go_wp2
      obtain ⟨k1, k2, k3⟩ := ask_end HXB.out HH.out HT.out hg2.out HRW.out HO.out HBW.out (.cells #[.int .i64 x, .int .i64 2, .int .i64 0, .int .i64 0, .int .i64 0, .int .i64 s1.me, .bool r6, .int .i64 r7, .int .i64 r8] 38) (.int .i64 x) (.int .i64 2) (.int .i64 0) (.int .i64 0) (.int .i64 0) (.int .i64 s1.me) (.bool r6) (.int .i64 r7) (.int .i64 r8)
      refine bodyPost_ret (results_ct rfl _ _ gb 38 #[.int .i64 x, .int .i64 2, .int .i64 0, .int .i64 0, .int .i64 0, .int .i64 s1.me, .bool r6, .int .i64 r7, .int .i64 r8] (0, 0) _ rfl k1 Try.underlying38 rfl (by kernel_rfl)) rfl ?_
      rw [FIN.out, if_pos E.out]
      exact ⟨rfl, k2, k3⟩
    · have e1 : (r1 == s1.ve) = false := beq_eq_false_iff_ne.mpr e
      have E := Lib.hid e
      clear e
      have n5 : ¬ gb = g9 := by have := HE.out; omega
      go_upto_region 10 with (fail)
      go_region_law (first | fail)
      all_goals
        obtain ⟨k1, k2, k3⟩ := ask_end HXB.out HH.out HT.out hg2.out HRW.out HO.out HBW.out (.cells #[.int .i64 x, .int .i64 2, .int .i64 0, .int .i64 0, .int .i64 0, .int .i64 s1.me, .bool r6, .int .i64 r7, .int .i64 r8] 38) (.int .i64 x) (.int .i64 2) (.int .i64 0) (.int .i64 0) (.int .i64 0) (.int .i64 s1.me) (.bool r6) (.int .i64 r7) (.int .i64 r8)
        go_wp2
        refine bodyPost_ret (results_ct rfl _ _ gb 38 #[.int .i64 x, .int .i64 2, .int .i64 0, .int .i64 0, .int .i64 0, .int .i64 s1.me, .bool r6, .int .i64 r7, .int .i64 r8] (0, 0) _ rfl (blk_drew k1) Try.underlying38 rfl (by kernel_rfl)) rfl ?_
        rw [FIN.out, if_neg E.out]
        exact ⟨rfl, k2.kept (below_drew1 (Below.refl _ _)), k3.below k2 (below_drew1 (Below.refl _ _))⟩
end Go.Proofs.Ytpgmfjpjjnpiiaa.LeaseM
