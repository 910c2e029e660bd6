/- PROVED: lemmas that the row uses (cut copies of my texts and of the printed ones). No condition beyond what each line says. -/
import Derived.Test.YtpgmfjpjjnpiiaaBLeaseC
import Derived.Test.YtpgmfjpjjnpiiaaBXA
import Derived.Test.YtpgmfjpjjnpiiaaBWAll
import Derived.WalkKit
import Derived.WalkSpells
import Derived.WalkLawsBesides
import Derived.Outline
import Derived.Lib.Hide
import Derived.Deep.LoopGhost
import Derived.Deep.RegionHeld3
import Derived.Deep.DeepCutAuto
import Derived.Deep.RegionLaw
import Derived.BigQuiet
import Derived.Deep.QuietTactic
namespace Go.Proofs.Ytpgmfjpjjnpiiaa.LeaseD
open Go.RowKit Go.Proofs.Ytpgmfjpjjnpiiaa.PLeaseWakes Go.Proofs.YtpgmfjpjjnpiiaaW.PrintWords Go.Proofs.YtpgmfjpjjnpiiaaW.PrintLast Go.Proofs.YtpgmfjpjjnpiiaaW.PrintMore
attribute [local go_sem] max2_int min2_int max_two min_two max_three min_three max_four min_four
set_option linter.unusedSimpArgs false
set_option linter.unusedVariables false
open Go.Proofs.Ytpgmfjpjjnpiiaa.LeaseA
open Go.Proofs.Ytpgmfjpjjnpiiaa.LeaseB Go.Proofs.Ytpgmfjpjjnpiiaa.LeaseC
/-- Something is asked. -/
def asksS (s : ES) (e : Int) : ES := { s with a0 := s.me, a1 := e, a2 := s.now, opn := true, gr := [] }
theorem EIs.to {base : Nat} {ok : Nat → Prop} {w w1 : World} {r : Nat} {v : Value} {s s' : ES} (h : EIs base ok w r v s) (hx : w1.heap[r]? = some (.cells (cellsE s' (.slice none 0 0)) 58 (0, 0))) (hg : s'.gr = []) : EIs base ok w1 r (.slice none 0 0) s' :=
  ⟨hx, h.2.1, by rw [hg]; exact Kd.R_nil _ _ _ _ _⟩
theorem world_gen {K : World → Prop} {W : World} (P : World → Prop) (h : P W) (hk : ∀ w, P w → K w) : K W := hk W h
theorem below_up {base : Nat} {ok : Nat → Prop} {w w1 w2 : World} {r : Nat} {v : Value} {s : ES} (h : Below base w w1) (hE : EIs base ok w1 r v s) (hb : Below w1.heap.size w1 w2) : Below base w w2 := h.trans (hb.mono (by have := hE.lt; have := hE.2.1; omega))
set_option maxHeartbeats 4000000 in
set_option maxRecDepth 100000 in
theorem asks_ok (base r : Nat) (ok : Nat → Prop) (v : Value) (s : ES) (e : Int) (w : World) (h : EIs base ok w r v s) :
    Calls Try.prog 37 #[.pointer (some ⟨r, 0, none⟩), .int .i64 e] w fun x w' => ∃ a, x = .returned (.func (.func 51) #[] #[.pointer (some ⟨a, 0, none⟩)]) ∧ w'.heap[a]? = some (.cells #[.int .i64 s.me, .int .i64 e, .int .i64 s.now] 34 (0, 0)) ∧ EIs base ok w' r (.slice none 0 0) (asksS s e) ∧ Below base w w' ∧ Kept w w' (fun k => k = r) := by
  obtain ⟨c0, c1, c2, c3, c4, c5, c6, c7, c8, c9, c10, c11, c12, c13, c14, c15, c16, c17⟩ := h.cells
  have f9 := h.free 9
  have f10 := h.free 10
  have f11 := h.free 11
  have f12 := h.free 12
  have f13 := h.free 13
  have H := Lib.hid h
  clear h c5 c6 c7 c8 c14 c15 c16 c17 c2 c3 c1
  go_enter Try.func37, Try.ntmps37
  go_upto_region 1 with (fail)
  go_region_law (first | fail)
  all_goals
    refine world_gen (P := fun w5 => EIs base ok w5 r (.slice none 0 0) (asksS s e) ∧ Below base w w5 ∧ Kept w w5 (fun k => k = r)) ⟨EIs.to H.out (blk_drew (blk_put (blk_put (blk_put (blk_put (blk_put H.out.1 9 (.int .i64 s.me) rfl) 10 (.int .i64 e) rfl) 11 (.int .i64 s.now) rfl) 12 (.bool true) rfl) 13 (.slice none 0 0) rfl)) rfl, below_drew1 ((((((Below.refl _ _).setCell H.out.2.1 _).setCell H.out.2.1 _).setCell H.out.2.1 _).setCell H.out.2.1 _).setCell H.out.2.1 _), (below_drew1 ((((((Below.refl _ _).setCell H.out.2.1 _).setCell H.out.2.1 _).setCell H.out.2.1 _).setCell H.out.2.1 _).setCell H.out.2.1 _)).size, fun k hk hn => (Below.heap_setCell _ ⟨r, 13, none⟩ _ k hn).trans ((Below.heap_setCell _ ⟨r, 12, none⟩ _ k hn).trans ((Below.heap_setCell _ ⟨r, 11, none⟩ _ k hn).trans ((Below.heap_setCell _ ⟨r, 10, none⟩ _ k hn).trans (Below.heap_setCell _ ⟨r, 9, none⟩ _ k hn))))⟩ (fun w5 h5 => ?_)
    obtain ⟨p1, p2, p3⟩ := h5
    have d9 := p1.cells.2.2.2.2.2.2.2.2.2.1
    have d10 := p1.cells.2.2.2.2.2.2.2.2.2.2.1
    have d11 := p1.cells.2.2.2.2.2.2.2.2.2.2.2.1
    have P1 := Lib.hid p1
    have P2 := Lib.hid p2
    have P3 := Lib.hid p3
    have hmf : ∀ (fn : Fn) (first cap : Array Value) (w : World), (Instr.makeFunc fn first cap).run Try.prog w = .ok (.func fn first cap) w := fun _ _ _ _ => rfl
    clear p1 p2 p3 c0 c4 c9 c10 c11 c12 c13 f9 f10 f11 f12 f13
    go_wp2
    go_ret
    have hbl := below_alloc (Below.refl w5.heap.size w5) (.cells #[.int .i64 s.me, .int .i64 e, .int .i64 s.now] 34)
    exact ⟨_, rfl, blk_new _ _, P1.out.kept hbl, below_up P2.out P1.out hbl, Kept.below P3.out hbl⟩
end Go.Proofs.Ytpgmfjpjjnpiiaa.LeaseD
