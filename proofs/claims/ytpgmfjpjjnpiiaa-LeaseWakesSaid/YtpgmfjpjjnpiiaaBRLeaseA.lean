/- PROVED: lemmas that the row uses (cut copies of my texts and of the printed ones). No condition beyond what each line says. -/
import Derived.Test.YtpgmfjpjjnpiiaaBLeaseO
import Derived.Test.YtpgmfjpjjnpiiaaBLeaseM
import Derived.Test.YtpgmfjpjjnpiiaaBLeaseN
import Derived.Test.YtpgmfjpjjnpiiaaBXA
import Derived.Test.YtpgmfjpjjnpiiaaBLeaseE
import Derived.Test.YtpgmfjpjjnpiiaaBLeaseK
import Derived.Test.YtpgmfjpjjnpiiaaBWAll
import Derived.WalkKit
import Derived.WalkSpells
import Derived.WalkLawsBesides
import Derived.Outline
import Derived.Lib.Hide
import Derived.Deep.LoopGhost
import Derived.Deep.RegionHeld3
import Derived.Deep.DeepCutAuto
import Derived.Deep.RegionLaw
import Derived.BigQuiet
import Derived.Deep.QuietTactic
namespace Go.Proofs.Ytpgmfjpjjnpiiaa.RLeaseA
open Go.RowKit Go.Proofs.Ytpgmfjpjjnpiiaa.PLeaseWakes Go.Proofs.YtpgmfjpjjnpiiaaW.PrintWords Go.Proofs.YtpgmfjpjjnpiiaaW.PrintLast Go.Proofs.YtpgmfjpjjnpiiaaW.PrintMore
attribute [local go_sem] max2_int min2_int max_two min_two max_three min_three max_four min_four
set_option linter.unusedSimpArgs false
set_option linter.unusedVariables false
open Go.Proofs.Ytpgmfjpjjnpiiaa.LeaseA
open Go.Proofs.Ytpgmfjpjjnpiiaa.LeaseB Go.Proofs.Ytpgmfjpjjnpiiaa.LeaseC Go.Proofs.Ytpgmfjpjjnpiiaa.LeaseD Go.Proofs.Ytpgmfjpjjnpiiaa.LeaseH Go.Proofs.Ytpgmfjpjjnpiiaa.LeaseJ Go.Proofs.Ytpgmfjpjjnpiiaa.LeaseK
open Go.Proofs.Ytpgmfjpjjnpiiaa.LeaseL Go.Proofs.Ytpgmfjpjjnpiiaa.LeaseM Go.Proofs.Ytpgmfjpjjnpiiaa.LeaseN Go.Proofs.Ytpgmfjpjjnpiiaa.LeaseG Go.Proofs.Ytpgmfjpjjnpiiaa.LeaseF Go.Proofs.Ytpgmfjpjjnpiiaa.LeaseI
open Go.Proofs.Ytpgmfjpjjnpiiaa.LeaseO
def cellsR (s : ES) (v : Value) : Array Value := #[.int .i64 s.me, .int .i64 s.n, .int .i64 s.lease, .int .i64 s.safe, .int .i64 s.now, .int .i64 s.ve, .int .i64 s.vh, .int .i64 s.vu, .int .i64 s.vs, .bool s.opn, .int .i64 s.a1, .int .i64 s.a2, v, .int .i64 s.led, .int .i64 s.unt, .int .i64 s.next, .int .i64 s.heard]
/-- The reference's elector at block r, whose row of replies is v. -/
def RIs (base : Nat) (ok : Nat → Prop) (w : World) (r : Nat) (v : Value) (s : ES) : Prop := w.heap[r]? = some (.cells (cellsR s v) 63 (0, 0)) ∧ base ≤ r ∧ Kd.R k36 36 w base ok v s.gr
section
variable {base : Nat} {ok ok' : Nat → Prop} {w w1 : World} {r : Nat} {v : Value} {s : ES}
theorem RIs.cells (h : RIs base ok w r v s) : w.cell? ⟨r, 0, none⟩ = some (.int .i64 s.me) ∧ w.cell? ⟨r, 1, none⟩ = some (.int .i64 s.n) ∧ w.cell? ⟨r, 2, none⟩ = some (.int .i64 s.lease) ∧ w.cell? ⟨r, 3, none⟩ = some (.int .i64 s.safe) ∧ w.cell? ⟨r, 4, none⟩ = some (.int .i64 s.now) ∧ w.cell? ⟨r, 5, none⟩ = some (.int .i64 s.ve) ∧ w.cell? ⟨r, 6, none⟩ = some (.int .i64 s.vh) ∧ w.cell? ⟨r, 7, none⟩ = some (.int .i64 s.vu) ∧ w.cell? ⟨r, 8, none⟩ = some (.int .i64 s.vs) ∧ w.cell? ⟨r, 9, none⟩ = some (.bool s.opn) ∧ w.cell? ⟨r, 10, none⟩ = some (.int .i64 s.a1) ∧ w.cell? ⟨r, 11, none⟩ = some (.int .i64 s.a2) ∧ w.cell? ⟨r, 12, none⟩ = some (v) ∧ w.cell? ⟨r, 13, none⟩ = some (.int .i64 s.led) ∧ w.cell? ⟨r, 14, none⟩ = some (.int .i64 s.unt) ∧ w.cell? ⟨r, 15, none⟩ = some (.int .i64 s.next) ∧ w.cell? ⟨r, 16, none⟩ = some (.int .i64 s.heard) :=
  ⟨(blk_cell h.1 0).trans rfl, (blk_cell h.1 1).trans rfl, (blk_cell h.1 2).trans rfl, (blk_cell h.1 3).trans rfl, (blk_cell h.1 4).trans rfl, (blk_cell h.1 5).trans rfl, (blk_cell h.1 6).trans rfl, (blk_cell h.1 7).trans rfl, (blk_cell h.1 8).trans rfl, (blk_cell h.1 9).trans rfl, (blk_cell h.1 10).trans rfl, (blk_cell h.1 11).trans rfl, (blk_cell h.1 12).trans rfl, (blk_cell h.1 13).trans rfl, (blk_cell h.1 14).trans rfl, (blk_cell h.1 15).trans rfl, (blk_cell h.1 16).trans rfl⟩
theorem RIs.free (h : RIs base ok w r v s) (i : Nat) : w.frozen? ⟨r, i, none⟩ = false := blk_frozen h.1 i
theorem RIs.lt (h : RIs base ok w r v s) : r < w.heap.size := blk_lt h.1
theorem RIs.kept (h : RIs base ok w r v s) (hb : Below w.heap.size w w1) : RIs base ok w1 r v s := ⟨blk_below h.1 hb, h.2.1, Kd.R_below h.2.2 hb⟩
theorem RIs.mono (h : RIs base ok w r v s) (ho : ∀ k, ok k → ok' k) : RIs base ok' w r v s := ⟨h.1, h.2.1, Kd.R_mono h.2.2 ho⟩
theorem k36_t63 : ∀ q, q ∈ 36 :: k36.E → q ≠ 63 := by decide
/-- A cell that is no row is another one. -/
theorem RIs.put (h : RIs base ok w r v s) {s' : ES} (j : Nat) (x : Value) (hc : (cellsR s v).setIfInBounds j x = cellsR s' v) (hg : s'.gr = s.gr) : RIs base ok (w.setCell ⟨r, j, none⟩ x) r v s' :=
  ⟨by rw [← hc]; exact blk_put h.1 j x rfl, h.2.1, by
    rw [hg]
    exact Kd.R_mono (Kd.R_far (p := ⟨r, j, none⟩) (Kd.R_types h.2.2 h.1 k36_t63) (fun _ hk => hk.2) x) (fun _ hk => hk.1)⟩
theorem RIs.keep (h : RIs base ok w r v s) (j : Nat) (x : Value) : Below base w (w.setCell ⟨r, j, none⟩ x) ∧ Kept w (w.setCell ⟨r, j, none⟩ x) (fun k => k = r) :=
  ⟨(Below.refl _ _).setCell h.2.1 _, ((Below.refl _ _).setCell h.2.1 _).size, fun k hk hn => Below.heap_setCell _ ⟨r, j, none⟩ _ k hn⟩
end
/-- The reference's elector as a thing. -/
def reT (r : Nat) (s : ES) : Thing where
  H := fun w base ok => ∃ okl v, RIs base okl w r v s ∧ ok r ∧ ∀ k, okl k → ok k ∧ k ≠ r
  mono := fun h ⟨okl, v, hN, hr, ho⟩ => ⟨okl, v, hN, h _ hr, fun k hk => ⟨h _ (ho k hk).1, (ho k hk).2⟩⟩
  bound := fun {w base ok} ⟨okl, v, hN, hr, ho⟩ => ⟨fun k => okl k ∧ k < w.heap.size, v, ⟨hN.1, hN.2.1, Kd.R_mono (Kd.R_bound hN.2.2) (fun k hk => ⟨hk.1, hk.2.2.1⟩)⟩, ⟨hr, hN.lt⟩, fun k hk => ⟨⟨(ho k hk.1).1, hk.2⟩, (ho k hk.1).2⟩⟩
  lower := fun hb ⟨okl, v, hN, hr, ho⟩ => ⟨okl, v, ⟨hN.1, Nat.le_trans hb hN.2.1, Kd.R_lower hN.2.2 hb⟩, hr, ho⟩
  step := fun ⟨okl, v, hN, hr, ho⟩ hs hm => ⟨okl, v, ⟨by rw [hm _ hr hN.lt]; exact hN.1, hN.2.1, Kd.R_step hN.2.2 (fun k hk hl => hm k (ho k hk).1 hl)⟩, hr, ho⟩
set_option maxHeartbeats 4000000 in
set_option maxRecDepth 100000 in
theorem rtold_ok (base r : Nat) (ok : Nat → Prop) (v : Value) (s : ES) (t : Int) (w : World) (h : RIs base ok w r v s) :
    Calls Try.prog 42 #[.pointer (some ⟨r, 0, none⟩), .int .i64 t] w fun e w' => e = .returned (.tuple #[]) ∧ RIs base ok w' r v (toldS s t) ∧ Below base w w' ∧ Kept w w' (fun k => k = r) := by
  obtain ⟨c0, c1, c2, c3, c4, c5, c6, c7, c8, c9, c10, c11, c12, c13, c14, c15, c16⟩ := h.cells
  have f4 := h.free 4
  have H := Lib.hid h
  clear h
  have key : ∀ y : Int, y = mx s.now (mn t 1099511627776) → RIs base ok (w.setCell ⟨r, 4, none⟩ (.int .i64 y)) r v (toldS s t) ∧ Below base w (w.setCell ⟨r, 4, none⟩ (.int .i64 y)) ∧ Kept w (w.setCell ⟨r, 4, none⟩ (.int .i64 y)) (fun k => k = r) := by
    intro y hy
    subst hy
    exact ⟨H.out.put 4 _ rfl rfl, H.out.keep 4 _⟩
  have KEY := Lib.hid key
  clear key
  go_enter Try.func42, Try.ntmps42
  go_wp2
  all_goals
    go_end0
    exact ⟨rfl, KEY.out _ (by unfold mx mn; (repeat' split) <;> omega)⟩
set_option maxHeartbeats 4000000 in
set_option maxRecDepth 100000 in
theorem rleads_ok (base r : Nat) (ok : Nat → Prop) (v : Value) (s : ES) (w : World) (h : RIs base ok w r v s) :
    Calls Try.prog 43 #[.pointer (some ⟨r, 0, none⟩)] w fun e w' => e = .returned (.bool (leadsB s)) ∧ RIs base ok w' r v s ∧ Below w.heap.size w w' := by
  obtain ⟨c0, c1, c2, c3, c4, c5, c6, c7, c8, c9, c10, c11, c12, c13, c14, c15, c16⟩ := h.cells
  have H := Lib.hid h
  clear h
  unfold leadsB
  by_cases q : s.led = 0
  · go_enter Try.func43, Try.ntmps43
    go_wp2
    go_quiet (fail)
    go_wp2
    go_ret
    exact ⟨by simp [q], H.out.kept (pw_below_drewN (Below.refl _ _) _), pw_below_drewN (Below.refl _ _) _⟩
  · have q1 : (s.led == 0) = false := beq_eq_false_iff_ne.mpr q
    have q2 : (s.led != 0) = true := bne_iff_ne.mpr q
    go_enter Try.func43, Try.ntmps43
    go_wp2
    go_quiet (fail)
    go_wp2
    go_ret
    exact ⟨by simp [q], H.out.kept (pw_below_drewN (Below.refl _ _) _), pw_below_drewN (Below.refl _ _) _⟩
section
variable {base : Nat} {ok : Nat → Prop} {w w1 w2 : World} {r : Nat} {v : Value} {s s' : ES}
theorem RIs.low (h : RIs base ok w r v s) {B : Nat} (hr : r < B) (ho : ∀ k, ok k → k < B) (hb : Below B w w1) : RIs base ok w1 r v s :=
  ⟨(hb.block r hr).trans h.1, h.2.1, Kd.R_step h.2.2 (fun k hk _ => hb.block k (ho k hk))⟩
theorem RIs.to (h : RIs base ok w r v s) (hx : w1.heap[r]? = some (.cells (cellsR s' (.slice none 0 0)) 63 (0, 0))) (hg : s'.gr = []) : RIs base ok w1 r (.slice none 0 0) s' :=
  ⟨hx, h.2.1, by rw [hg]; exact Kd.R_nil _ _ _ _ _⟩
theorem RIs.ge (h : RIs base ok w r v s) : base ≤ w.heap.size := Nat.le_trans h.2.1 (Nat.le_of_lt h.lt)
theorem RIs.stp (hE : RIs base ok w1 r v s) (h : Stp base r w w1) (hb : Below w1.heap.size w1 w2) : Stp base r w w2 := ⟨h.1.trans (hb.mono hE.ge), Kept.below h.2 hb⟩
theorem RIs.stput (hE : RIs base ok w1 r v s) (h : Stp base r w w1) (j : Nat) (x : Value) : Stp base r w (w1.setCell ⟨r, j, none⟩ x) := h.trans (hE.keep j x)
end
end Go.Proofs.Ytpgmfjpjjnpiiaa.RLeaseA
