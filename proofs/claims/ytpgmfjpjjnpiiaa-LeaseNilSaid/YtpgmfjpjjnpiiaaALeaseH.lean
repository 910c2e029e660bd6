/- PROVED: Free. No condition beyond what each line says. -/
import Derived.Test.YtpgmfjpjjnpiiaaALeaseA
import Derived.Test.YtpgmfjpjjnpiiaaALRead
import Derived.Test.YtpgmfjpjjnpiiaaAWApart
import Derived.Test.YtpgmfjpjjnpiiaaAWKept
import Derived.WalkKit
import Derived.WalkSpells
import Derived.WalkLawsBesides
import Derived.Outline
import Derived.Lib.Hide
import Derived.Deep.LoopGhost
import Derived.Deep.RegionHeld3
import Derived.Deep.DeepCutAuto
import Derived.Deep.RegionLaw
import Derived.BigQuiet
import Derived.Deep.QuietTactic
namespace Go.Proofs.Ytpgmfjpjjnpiiaa.LeaseH
open Go.RowKit Go.Proofs.Ytpgmfjpjjnpiiaa.PLeaseWakes Go.Proofs.YtpgmfjpjjnpiiaaW.PrintWords Go.Proofs.YtpgmfjpjjnpiiaaW.PrintLast Go.Proofs.YtpgmfjpjjnpiiaaW.PrintMore
attribute [local go_sem] max2_int min2_int max_two min_two max_three min_three max_four min_four
set_option linter.unusedSimpArgs false
set_option linter.unusedVariables false
open Go.Proofs.Ytpgmfjpjjnpiiaa.LeaseA
theorem kept_trans {w w1 w2 : World} {S : Nat → Prop} (h1 : Kept w w1 S) (h2 : Kept w1 w2 S) : Kept w w2 S := ⟨Nat.le_trans h1.1 h2.1, fun k hk hn => (h2.2 k (Nat.lt_of_lt_of_le hk h1.1) hn).trans (h1.2 k hk hn)⟩
theorem vote_put {base : Nat} {ok : Nat → Prop} {w : World} {r : Nat} {v : Value} {s : ES} (h : EIs base ok w r v s) (a b c d : Int) :
    EIs base ok ((((w.setCell ⟨r, 5, none⟩ (.int .i64 a)).setCell ⟨r, 6, none⟩ (.int .i64 b)).setCell ⟨r, 7, none⟩ (.int .i64 c)).setCell ⟨r, 8, none⟩ (.int .i64 d)) r v { s with ve := a, vh := b, vu := c, vs := d } ∧
    Below base w ((((w.setCell ⟨r, 5, none⟩ (.int .i64 a)).setCell ⟨r, 6, none⟩ (.int .i64 b)).setCell ⟨r, 7, none⟩ (.int .i64 c)).setCell ⟨r, 8, none⟩ (.int .i64 d)) ∧
    Kept w ((((w.setCell ⟨r, 5, none⟩ (.int .i64 a)).setCell ⟨r, 6, none⟩ (.int .i64 b)).setCell ⟨r, 7, none⟩ (.int .i64 c)).setCell ⟨r, 8, none⟩ (.int .i64 d)) (fun k => k = r) := by
  have h1 := h.put (s' := { s with ve := a }) 5 (.int .i64 a) rfl rfl
  have h2 := h1.put (s' := { s with ve := a, vh := b }) 6 (.int .i64 b) rfl rfl
  have h3 := h2.put (s' := { s with ve := a, vh := b, vu := c }) 7 (.int .i64 c) rfl rfl
  exact ⟨h3.put 8 (.int .i64 d) rfl rfl, (h.keep 5 _).1.trans ((h1.keep 6 _).1.trans ((h2.keep 7 _).1.trans (h3.keep 8 _).1)), kept_trans (h.keep 5 _).2 (kept_trans (h1.keep 6 _).2 (kept_trans (h2.keep 7 _).2 (h3.keep 8 _).2))⟩
end Go.Proofs.Ytpgmfjpjjnpiiaa.LeaseH
