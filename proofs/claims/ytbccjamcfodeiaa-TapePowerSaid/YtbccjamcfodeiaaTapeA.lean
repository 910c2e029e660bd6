/- PROVED: an append lowers no count of open steps. No condition. -/
import Derived.Test.YtbccjamcfodeiaaTapeE
import Derived.Test.YtbccjamcfodeiaaLRead
import Derived.Test.YtbccjamcfodeiaaWApart
import Derived.Test.YtbccjamcfodeiaaWKept
import Derived.WalkKit
import Derived.WalkSpells
import Derived.WalkLawsBesides
import Derived.WalkMore
import Derived.Outline
import Derived.Lib.Hide
import Derived.BigQuiet
import Derived.Deep.QuietTactic
import Derived.Deep.RegionHeld3
import Derived.Deep.RegionLaw
import Derived.Deep.LoopGhost
import Derived.Deep.DeepCutAuto
namespace Go.Proofs.Ytbccjamcfodeiaa.TapeA
open Go.RowKit Go.Proofs.Ytbccjamcfodeiaa.PTapePlays Go.Proofs.YtbccjamcfodeiaaW.PrintWords Go.Proofs.YtbccjamcfodeiaaW.PrintLast Go.Proofs.YtbccjamcfodeiaaW.PrintMore
open Go.Proofs.Ytbccjamcfodeiaa.Tape Go.Proofs.Ytbccjamcfodeiaa.Tape2 Go.Proofs.Ytbccjamcfodeiaa.Tape3 Go.Proofs.Ytbccjamcfodeiaa.Tape4 Go.Proofs.Ytbccjamcfodeiaa.Tape5 Go.Proofs.Ytbccjamcfodeiaa.Tape6 Go.Proofs.Ytbccjamcfodeiaa.Tape7 Go.Proofs.Ytbccjamcfodeiaa.Tape8 Go.Proofs.Ytbccjamcfodeiaa.Tape9
open Go.Proofs.Ytbccjamcfodeiaa.TapeW Go.Proofs.Ytbccjamcfodeiaa.TapeF Go.Proofs.Ytbccjamcfodeiaa.TapeP Go.Proofs.Ytbccjamcfodeiaa.TapeP2
open Go.Proofs.Ytbccjamcfodeiaa.TapeS
open Go.Proofs.Ytbccjamcfodeiaa.TapeE
set_option linter.unusedSimpArgs false
set_option linter.unusedVariables false
theorem grows_app (s : TS) (i : Int) (b : List Int) (j : Int) : openS s j ≤ openS (appS s i b).2 j := by
  have hp : ∀ (k : Nat), (s.opn k).length ≤ ((appS s i b).2.opn k).length := by
    intro k
    unfold appS
    split
    · exact Nat.le_refl _
    · split
      · exact Nat.le_refl _
      · split
        · exact Nat.le_refl _
        · show _ ≤ (upd s.opn i.toNat (appT b (s.now i.toNat) (s.opn i.toNat) s.f false).2.2.1 k).length
          by_cases q : k = i.toNat
          · rw [q, upd_same]
            have h : ∀ (b now : List Int) (opn : List (Bool × Int)) (f : Int) (d : Bool), opn.length ≤ (appT b now opn f d).2.2.1.length := by
              intro b
              induction b with
              | nil => intro now opn f d; exact Nat.le_refl _
              | cons c b ih =>
                intro now opn f d
                rw [appT]
                split
                · refine Nat.le_trans ?_ (ih _ _ _ _)
                  simp
                · exact Nat.le_refl _
            exact h _ _ _ _ _
          · rw [upd_ne _ _ q]; exact Nat.le_refl _
  unfold openS
  split
  · exact Int.le_refl _
  · have := hp j.toNat
    omega
end Go.Proofs.Ytbccjamcfodeiaa.TapeA
