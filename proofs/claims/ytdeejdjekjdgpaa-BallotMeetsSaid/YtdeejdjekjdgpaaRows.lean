/-
  No cell of these rows narrows 'for every input' (looked for: loops, veiled, ifaces, maps, wideKeys, modest, calm, conditions, laid).
  DERIVED. THE GIVEN ROWS OF THIS SEAT. 6 by the template 'for every input the law returns true; each argument reads behind the call as it read before'; 0 by the template 'total and deterministic' (their statements: YtdeejdjekjdgpaaTotals.lean).
  GIVEN WITH THE SEED: the statements are not yours to turn. If you find one false, say at which input.
  Laid BY PROGRAM, IN A SANDBOX (cutbox-rows.mjs): the forced cells as the released guide's own fill.sh prints them over the translation 96d0a76bba60630f… (all of the seat's roots in one cut). By AI agents, Wed Nov 11 2026. No macro, syntax, notation, axiom, sorry.
-/
import Derived.Test.YtdeejdjekjdgpaaChecked
import GoSem.Claim
import GoSem.ClaimJoined
import GoSem.ClaimMapViews
import Derived.JoinedTies
import Derived.KernelRfl
namespace Go.Proofs.Ytdeejdjekjdgpaa
/- THE CELL 'sum', in the pinned program and in every row, IS THE sha256 OF THE DUMP (.gsa) THAT YtdeejdjekjdgpaaProg.lean LOADS. Nothing in Lean hashes anything: it is a label: what it is worth is what the hold of that sum in a sandbox is worth. -/
noncomputable def Try.pinned : Pinned := { name := "ytdeejdjekjdgpaa", sum := "96d0a76bba60630f6911c1578e16e72cc31346e8a4e5cd112db6c649967ae748", checked := Try.checked }
namespace Rows
def none {H : Type} : Left H := { results := [], args := [] }

/-- 'juratlaw15.BallotOne': WHATEVER THE INPUT: true; the input reads as it did. -/
def ballotOneSpec : ChangeSpec := { name := "ballotOne", fn := fun _ => fun
  | [d1, d2] => { results := [.lit (.bool true)], args := [d1, d2] }
  | _ => none }
def ballotOneRow : OpenClaim := { program := "ytdeejdjekjdgpaa", sum := "96d0a76bba60630f6911c1578e16e72cc31346e8a4e5cd112db6c649967ae748", func := "jurat/juratlaw15.BallotOne", spec := "ballotOne", apart := false }
def BallotOneSaid : Prop := ballotOneRow.holds Try.pinned (OpenSpec.ofChange ballotOneSpec)

/-- ITS FALSE NEIGHBOUR: 'it returns false'. Refute it at one input. -/
def ballotOneWrong : ChangeSpec := { name := "ballotOne", fn := fun _ => fun
  | [d1, d2] => { results := [.lit (.bool false)], args := [d1, d2] }
  | _ => none }
def BallotOneWrongFalsely : Prop := ballotOneRow.holds Try.pinned (OpenSpec.ofChange ballotOneWrong)

/-- 'juratlaw15.BallotWoken': WHATEVER THE INPUT: true; the input reads as it did. -/
def ballotWokenSpec : ChangeSpec := { name := "ballotWoken", fn := fun _ => fun
  | [d1, d2, d3, d4, d5] => { results := [.lit (.bool true)], args := [d1, d2, d3, d4, d5] }
  | _ => none }
def ballotWokenRow : OpenClaim := { program := "ytdeejdjekjdgpaa", sum := "96d0a76bba60630f6911c1578e16e72cc31346e8a4e5cd112db6c649967ae748", func := "jurat/juratlaw15.BallotWoken", spec := "ballotWoken", apart := false }
def BallotWokenSaid : Prop := ballotWokenRow.holds Try.pinned (OpenSpec.ofChange ballotWokenSpec)

/-- ITS FALSE NEIGHBOUR: 'it returns false'. Refute it at one input. -/
def ballotWokenWrong : ChangeSpec := { name := "ballotWoken", fn := fun _ => fun
  | [d1, d2, d3, d4, d5] => { results := [.lit (.bool false)], args := [d1, d2, d3, d4, d5] }
  | _ => none }
def BallotWokenWrongFalsely : Prop := ballotWokenRow.holds Try.pinned (OpenSpec.ofChange ballotWokenWrong)

/-- 'juratlaw15.BallotRises': WHATEVER THE INPUT: true; the input reads as it did. -/
def ballotRisesSpec : ChangeSpec := { name := "ballotRises", fn := fun _ => fun
  | [d1, d2] => { results := [.lit (.bool true)], args := [d1, d2] }
  | _ => none }
def ballotRisesRow : OpenClaim := { program := "ytdeejdjekjdgpaa", sum := "96d0a76bba60630f6911c1578e16e72cc31346e8a4e5cd112db6c649967ae748", func := "jurat/juratlaw15.BallotRises", spec := "ballotRises", apart := false }
def BallotRisesSaid : Prop := ballotRisesRow.holds Try.pinned (OpenSpec.ofChange ballotRisesSpec)

/-- ITS FALSE NEIGHBOUR: 'it returns false'. Refute it at one input. -/
def ballotRisesWrong : ChangeSpec := { name := "ballotRises", fn := fun _ => fun
  | [d1, d2] => { results := [.lit (.bool false)], args := [d1, d2] }
  | _ => none }
def BallotRisesWrongFalsely : Prop := ballotRisesRow.holds Try.pinned (OpenSpec.ofChange ballotRisesWrong)

/-- 'juratlaw15.BallotHears': WHATEVER THE INPUT: true; the input reads as it did. -/
def ballotHearsSpec : ChangeSpec := { name := "ballotHears", fn := fun _ => fun
  | [d1, d2, d3, d4] => { results := [.lit (.bool true)], args := [d1, d2, d3, d4] }
  | _ => none }
def ballotHearsRow : OpenClaim := { program := "ytdeejdjekjdgpaa", sum := "96d0a76bba60630f6911c1578e16e72cc31346e8a4e5cd112db6c649967ae748", func := "jurat/juratlaw15.BallotHears", spec := "ballotHears", apart := false }
def BallotHearsSaid : Prop := ballotHearsRow.holds Try.pinned (OpenSpec.ofChange ballotHearsSpec)

/-- ITS FALSE NEIGHBOUR: 'it returns false'. Refute it at one input. -/
def ballotHearsWrong : ChangeSpec := { name := "ballotHears", fn := fun _ => fun
  | [d1, d2, d3, d4] => { results := [.lit (.bool false)], args := [d1, d2, d3, d4] }
  | _ => none }
def BallotHearsWrongFalsely : Prop := ballotHearsRow.holds Try.pinned (OpenSpec.ofChange ballotHearsWrong)

/-- 'juratlaw15.BallotCounts': WHATEVER THE INPUT: true; the input reads as it did. -/
def ballotCountsSpec : ChangeSpec := { name := "ballotCounts", fn := fun _ => fun
  | [d1, d2, d3, d4] => { results := [.lit (.bool true)], args := [d1, d2, d3, d4] }
  | _ => none }
def ballotCountsRow : OpenClaim := { program := "ytdeejdjekjdgpaa", sum := "96d0a76bba60630f6911c1578e16e72cc31346e8a4e5cd112db6c649967ae748", func := "jurat/juratlaw15.BallotCounts", spec := "ballotCounts", apart := false }
def BallotCountsSaid : Prop := ballotCountsRow.holds Try.pinned (OpenSpec.ofChange ballotCountsSpec)

/-- ITS FALSE NEIGHBOUR: 'it returns false'. Refute it at one input. -/
def ballotCountsWrong : ChangeSpec := { name := "ballotCounts", fn := fun _ => fun
  | [d1, d2, d3, d4] => { results := [.lit (.bool false)], args := [d1, d2, d3, d4] }
  | _ => none }
def BallotCountsWrongFalsely : Prop := ballotCountsRow.holds Try.pinned (OpenSpec.ofChange ballotCountsWrong)

/-- 'juratlaw15.BallotMeets': WHATEVER THE INPUT: true; the input reads as it did. -/
def ballotMeetsSpec : ChangeSpec := { name := "ballotMeets", fn := fun _ => fun
  | [d1, d2, d3, d4, d5, d6, d7] => { results := [.lit (.bool true)], args := [d1, d2, d3, d4, d5, d6, d7] }
  | _ => none }
def ballotMeetsRow : OpenClaim := { program := "ytdeejdjekjdgpaa", sum := "96d0a76bba60630f6911c1578e16e72cc31346e8a4e5cd112db6c649967ae748", func := "jurat/juratlaw15.BallotMeets", spec := "ballotMeets", apart := false }
def BallotMeetsSaid : Prop := ballotMeetsRow.holds Try.pinned (OpenSpec.ofChange ballotMeetsSpec)

/-- ITS FALSE NEIGHBOUR: 'it returns false'. Refute it at one input. -/
def ballotMeetsWrong : ChangeSpec := { name := "ballotMeets", fn := fun _ => fun
  | [d1, d2, d3, d4, d5, d6, d7] => { results := [.lit (.bool false)], args := [d1, d2, d3, d4, d5, d6, d7] }
  | _ => none }
def BallotMeetsWrongFalsely : Prop := ballotMeetsRow.holds Try.pinned (OpenSpec.ofChange ballotMeetsWrong)

/- THE SECOND FORM. 'bulk': how many values and letters a reading holds, each counted each time it is reached (what is shared counts as often as it is met; a slice's spare places count too). A statement '..UptoSaid' is the law's where the arguments, and the package variables that the reading takes, are together of bulk at most 1048576: NARROWER than '..Said'. Prove '..Said' where nothing that the law and all that it calls make is longer than what came in: it says more and counts as full. Else prove '..UptoSaid'. A law counts once. -/
mutual
def uptoBulk {H : Type} : DataW H → Nat
  | .lit (.string bytes) => bytes.length + 1
  | .lit _ => 1
  | .nil => 1
  | .ptr d => uptoBulk d + 1
  | .slice elems spare => uptoBulkAll elems + uptoBulkAll spare + 1
  | .agg parts => uptoBulkAll parts + 1
  | .iface _ d => uptoBulk d + 1
  | .map entries => uptoBulkEntries entries + 1
  | .held _ => 1
def uptoBulkAll {H : Type} : List (DataW H) → Nat
  | [] => 0
  | d :: r => uptoBulk d + uptoBulkAll r
def uptoBulkEntries {H : Type} : List (Lit × DataW H) → Nat
  | [] => 0
  | x :: r => uptoBulkEntry x + uptoBulkEntries r
def uptoBulkEntry {H : Type} : Lit × DataW H → Nat
  | (.string bytes, d) => bytes.length + uptoBulk d + 1
  | (_, d) => uptoBulk d + 1
 end
def uptoSmall : (H : Type) → List (DataW H) → Bool := fun _ ds => decide (uptoBulkAll ds ≤ 1048576)
def OpenSpec.upto (s : _root_.Go.ChangeSpec) : _root_.Go.OpenSpec := { _root_.Go.OpenSpec.ofChange s with cond := some uptoSmall }

/-- 'juratlaw15.BallotOne', WHERE WHAT IT READS IS OF BULK AT MOST 1048576: true; the input reads as it did. -/
def ballotOneUptoRow : OpenClaim := { program := "ytdeejdjekjdgpaa", sum := "96d0a76bba60630f6911c1578e16e72cc31346e8a4e5cd112db6c649967ae748", func := "jurat/juratlaw15.BallotOne", spec := "ballotOne", apart := false, narrowed := true }
def BallotOneUptoSaid : Prop := ballotOneUptoRow.holds Try.pinned (OpenSpec.upto ballotOneSpec)

/-- 'juratlaw15.BallotWoken', WHERE WHAT IT READS IS OF BULK AT MOST 1048576: true; the input reads as it did. -/
def ballotWokenUptoRow : OpenClaim := { program := "ytdeejdjekjdgpaa", sum := "96d0a76bba60630f6911c1578e16e72cc31346e8a4e5cd112db6c649967ae748", func := "jurat/juratlaw15.BallotWoken", spec := "ballotWoken", apart := false, narrowed := true }
def BallotWokenUptoSaid : Prop := ballotWokenUptoRow.holds Try.pinned (OpenSpec.upto ballotWokenSpec)

/-- 'juratlaw15.BallotRises', WHERE WHAT IT READS IS OF BULK AT MOST 1048576: true; the input reads as it did. -/
def ballotRisesUptoRow : OpenClaim := { program := "ytdeejdjekjdgpaa", sum := "96d0a76bba60630f6911c1578e16e72cc31346e8a4e5cd112db6c649967ae748", func := "jurat/juratlaw15.BallotRises", spec := "ballotRises", apart := false, narrowed := true }
def BallotRisesUptoSaid : Prop := ballotRisesUptoRow.holds Try.pinned (OpenSpec.upto ballotRisesSpec)

/-- 'juratlaw15.BallotHears', WHERE WHAT IT READS IS OF BULK AT MOST 1048576: true; the input reads as it did. -/
def ballotHearsUptoRow : OpenClaim := { program := "ytdeejdjekjdgpaa", sum := "96d0a76bba60630f6911c1578e16e72cc31346e8a4e5cd112db6c649967ae748", func := "jurat/juratlaw15.BallotHears", spec := "ballotHears", apart := false, narrowed := true }
def BallotHearsUptoSaid : Prop := ballotHearsUptoRow.holds Try.pinned (OpenSpec.upto ballotHearsSpec)

/-- 'juratlaw15.BallotCounts', WHERE WHAT IT READS IS OF BULK AT MOST 1048576: true; the input reads as it did. -/
def ballotCountsUptoRow : OpenClaim := { program := "ytdeejdjekjdgpaa", sum := "96d0a76bba60630f6911c1578e16e72cc31346e8a4e5cd112db6c649967ae748", func := "jurat/juratlaw15.BallotCounts", spec := "ballotCounts", apart := false, narrowed := true }
def BallotCountsUptoSaid : Prop := ballotCountsUptoRow.holds Try.pinned (OpenSpec.upto ballotCountsSpec)

/-- 'juratlaw15.BallotMeets', WHERE WHAT IT READS IS OF BULK AT MOST 1048576: true; the input reads as it did. -/
def ballotMeetsUptoRow : OpenClaim := { program := "ytdeejdjekjdgpaa", sum := "96d0a76bba60630f6911c1578e16e72cc31346e8a4e5cd112db6c649967ae748", func := "jurat/juratlaw15.BallotMeets", spec := "ballotMeets", apart := false, narrowed := true }
def BallotMeetsUptoSaid : Prop := ballotMeetsUptoRow.holds Try.pinned (OpenSpec.upto ballotMeetsSpec)

end Rows
end Go.Proofs.Ytdeejdjekjdgpaa
