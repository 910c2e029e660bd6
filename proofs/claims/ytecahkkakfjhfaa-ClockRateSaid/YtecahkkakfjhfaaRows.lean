/-
  No cell of these rows narrows 'for every input' (looked for: loops, veiled, ifaces, maps, wideKeys, modest, calm, conditions, laid).
  DERIVED. THE GIVEN ROWS OF THIS SEAT. 5 by the template 'for every input the law returns true; each argument reads behind the call as it read before'; 0 by the template 'total and deterministic' (their statements: YtecahkkakfjhfaaTotals.lean).
  GIVEN WITH THE SEED: the statements are not yours to turn. If you find one false, say at which input.
  Laid BY PROGRAM, IN A SANDBOX (cutbox-rows.mjs): the forced cells as the released guide's own fill.sh prints them over the translation 17625c314ddf9070… (all of the seat's roots in one cut). By AI agents, Wed Nov 11 2026. No macro, syntax, notation, axiom, sorry.
-/
import Derived.Test.YtecahkkakfjhfaaChecked
import GoSem.Claim
import GoSem.ClaimJoined
import GoSem.ClaimMapViews
import Derived.JoinedTies
import Derived.KernelRfl
namespace Go.Proofs.Ytecahkkakfjhfaa
/- THE CELL 'sum', in the pinned program and in every row, IS THE sha256 OF THE DUMP (.gsa) THAT YtecahkkakfjhfaaProg.lean LOADS. Nothing in Lean hashes anything: it is a label: what it is worth is what the hold of that sum in a sandbox is worth. -/
noncomputable def Try.pinned : Pinned := { name := "ytecahkkakfjhfaa", sum := "17625c314ddf907034af9720da0ed8d04fa6bb3fa19dd41f8635932169d07335", checked := Try.checked }
namespace Rows
def none {H : Type} : Left H := { results := [], args := [] }

/-- 'juratlaw14.ClockTells': WHATEVER THE INPUT: true; the input reads as it did. -/
def clockTellsSpec : ChangeSpec := { name := "clockTells", fn := fun _ => fun
  | [d1, d2, d3, d4, d5] => { results := [.lit (.bool true)], args := [d1, d2, d3, d4, d5] }
  | _ => none }
def clockTellsRow : OpenClaim := { program := "ytecahkkakfjhfaa", sum := "17625c314ddf907034af9720da0ed8d04fa6bb3fa19dd41f8635932169d07335", func := "jurat/juratlaw14.ClockTells", spec := "clockTells", apart := false }
def ClockTellsSaid : Prop := clockTellsRow.holds Try.pinned (OpenSpec.ofChange clockTellsSpec)

/-- ITS FALSE NEIGHBOUR: 'it returns false'. Refute it at one input. -/
def clockTellsWrong : ChangeSpec := { name := "clockTells", fn := fun _ => fun
  | [d1, d2, d3, d4, d5] => { results := [.lit (.bool false)], args := [d1, d2, d3, d4, d5] }
  | _ => none }
def ClockTellsWrongFalsely : Prop := clockTellsRow.holds Try.pinned (OpenSpec.ofChange clockTellsWrong)

/-- 'juratlaw14.ClockGoes': WHATEVER THE INPUT: true; the input reads as it did. -/
def clockGoesSpec : ChangeSpec := { name := "clockGoes", fn := fun _ => fun
  | [d1, d2, d3] => { results := [.lit (.bool true)], args := [d1, d2, d3] }
  | _ => none }
def clockGoesRow : OpenClaim := { program := "ytecahkkakfjhfaa", sum := "17625c314ddf907034af9720da0ed8d04fa6bb3fa19dd41f8635932169d07335", func := "jurat/juratlaw14.ClockGoes", spec := "clockGoes", apart := false }
def ClockGoesSaid : Prop := clockGoesRow.holds Try.pinned (OpenSpec.ofChange clockGoesSpec)

/-- ITS FALSE NEIGHBOUR: 'it returns false'. Refute it at one input. -/
def clockGoesWrong : ChangeSpec := { name := "clockGoes", fn := fun _ => fun
  | [d1, d2, d3] => { results := [.lit (.bool false)], args := [d1, d2, d3] }
  | _ => none }
def ClockGoesWrongFalsely : Prop := clockGoesRow.holds Try.pinned (OpenSpec.ofChange clockGoesWrong)

/-- 'juratlaw14.ClockRate': WHATEVER THE INPUT: true; the input reads as it did. -/
def clockRateSpec : ChangeSpec := { name := "clockRate", fn := fun _ => fun
  | [d1, d2, d3, d4] => { results := [.lit (.bool true)], args := [d1, d2, d3, d4] }
  | _ => none }
def clockRateRow : OpenClaim := { program := "ytecahkkakfjhfaa", sum := "17625c314ddf907034af9720da0ed8d04fa6bb3fa19dd41f8635932169d07335", func := "jurat/juratlaw14.ClockRate", spec := "clockRate", apart := false }
def ClockRateSaid : Prop := clockRateRow.holds Try.pinned (OpenSpec.ofChange clockRateSpec)

/-- ITS FALSE NEIGHBOUR: 'it returns false'. Refute it at one input. -/
def clockRateWrong : ChangeSpec := { name := "clockRate", fn := fun _ => fun
  | [d1, d2, d3, d4] => { results := [.lit (.bool false)], args := [d1, d2, d3, d4] }
  | _ => none }
def ClockRateWrongFalsely : Prop := clockRateRow.holds Try.pinned (OpenSpec.ofChange clockRateWrong)

/-- 'juratlaw14.ClockSafe': WHATEVER THE INPUT: true; the input reads as it did. -/
def clockSafeSpec : ChangeSpec := { name := "clockSafe", fn := fun _ => fun
  | [d1, d2, d3, d4, d5, d6, d7] => { results := [.lit (.bool true)], args := [d1, d2, d3, d4, d5, d6, d7] }
  | _ => none }
def clockSafeRow : OpenClaim := { program := "ytecahkkakfjhfaa", sum := "17625c314ddf907034af9720da0ed8d04fa6bb3fa19dd41f8635932169d07335", func := "jurat/juratlaw14.ClockSafe", spec := "clockSafe", apart := false }
def ClockSafeSaid : Prop := clockSafeRow.holds Try.pinned (OpenSpec.ofChange clockSafeSpec)

/-- ITS FALSE NEIGHBOUR: 'it returns false'. Refute it at one input. -/
def clockSafeWrong : ChangeSpec := { name := "clockSafe", fn := fun _ => fun
  | [d1, d2, d3, d4, d5, d6, d7] => { results := [.lit (.bool false)], args := [d1, d2, d3, d4, d5, d6, d7] }
  | _ => none }
def ClockSafeWrongFalsely : Prop := clockSafeRow.holds Try.pinned (OpenSpec.ofChange clockSafeWrong)

/-- 'juratlaw14.ClockWaits': WHATEVER THE INPUT: true; the input reads as it did. -/
def clockWaitsSpec : ChangeSpec := { name := "clockWaits", fn := fun _ => fun
  | [d1, d2, d3, d4] => { results := [.lit (.bool true)], args := [d1, d2, d3, d4] }
  | _ => none }
def clockWaitsRow : OpenClaim := { program := "ytecahkkakfjhfaa", sum := "17625c314ddf907034af9720da0ed8d04fa6bb3fa19dd41f8635932169d07335", func := "jurat/juratlaw14.ClockWaits", spec := "clockWaits", apart := false }
def ClockWaitsSaid : Prop := clockWaitsRow.holds Try.pinned (OpenSpec.ofChange clockWaitsSpec)

/-- ITS FALSE NEIGHBOUR: 'it returns false'. Refute it at one input. -/
def clockWaitsWrong : ChangeSpec := { name := "clockWaits", fn := fun _ => fun
  | [d1, d2, d3, d4] => { results := [.lit (.bool false)], args := [d1, d2, d3, d4] }
  | _ => none }
def ClockWaitsWrongFalsely : Prop := clockWaitsRow.holds Try.pinned (OpenSpec.ofChange clockWaitsWrong)

/- THE SECOND FORM. 'bulk': how many values and letters a reading holds, each counted each time it is reached (what is shared counts as often as it is met; a slice's spare places count too). A statement '..UptoSaid' is the law's where the arguments, and the package variables that the reading takes, are together of bulk at most 1048576: NARROWER than '..Said'. Prove '..Said' where nothing that the law and all that it calls make is longer than what came in: it says more and counts as full. Else prove '..UptoSaid'. A law counts once. -/
mutual
def uptoBulk {H : Type} : DataW H → Nat
  | .lit (.string bytes) => bytes.length + 1
  | .lit _ => 1
  | .nil => 1
  | .ptr d => uptoBulk d + 1
  | .slice elems spare => uptoBulkAll elems + uptoBulkAll spare + 1
  | .agg parts => uptoBulkAll parts + 1
  | .iface _ d => uptoBulk d + 1
  | .map entries => uptoBulkEntries entries + 1
  | .held _ => 1
def uptoBulkAll {H : Type} : List (DataW H) → Nat
  | [] => 0
  | d :: r => uptoBulk d + uptoBulkAll r
def uptoBulkEntries {H : Type} : List (Lit × DataW H) → Nat
  | [] => 0
  | x :: r => uptoBulkEntry x + uptoBulkEntries r
def uptoBulkEntry {H : Type} : Lit × DataW H → Nat
  | (.string bytes, d) => bytes.length + uptoBulk d + 1
  | (_, d) => uptoBulk d + 1
 end
def uptoSmall : (H : Type) → List (DataW H) → Bool := fun _ ds => decide (uptoBulkAll ds ≤ 1048576)
def OpenSpec.upto (s : _root_.Go.ChangeSpec) : _root_.Go.OpenSpec := { _root_.Go.OpenSpec.ofChange s with cond := some uptoSmall }

/-- 'juratlaw14.ClockTells', WHERE WHAT IT READS IS OF BULK AT MOST 1048576: true; the input reads as it did. -/
def clockTellsUptoRow : OpenClaim := { program := "ytecahkkakfjhfaa", sum := "17625c314ddf907034af9720da0ed8d04fa6bb3fa19dd41f8635932169d07335", func := "jurat/juratlaw14.ClockTells", spec := "clockTells", apart := false, narrowed := true }
def ClockTellsUptoSaid : Prop := clockTellsUptoRow.holds Try.pinned (OpenSpec.upto clockTellsSpec)

/-- 'juratlaw14.ClockGoes', WHERE WHAT IT READS IS OF BULK AT MOST 1048576: true; the input reads as it did. -/
def clockGoesUptoRow : OpenClaim := { program := "ytecahkkakfjhfaa", sum := "17625c314ddf907034af9720da0ed8d04fa6bb3fa19dd41f8635932169d07335", func := "jurat/juratlaw14.ClockGoes", spec := "clockGoes", apart := false, narrowed := true }
def ClockGoesUptoSaid : Prop := clockGoesUptoRow.holds Try.pinned (OpenSpec.upto clockGoesSpec)

/-- 'juratlaw14.ClockRate', WHERE WHAT IT READS IS OF BULK AT MOST 1048576: true; the input reads as it did. -/
def clockRateUptoRow : OpenClaim := { program := "ytecahkkakfjhfaa", sum := "17625c314ddf907034af9720da0ed8d04fa6bb3fa19dd41f8635932169d07335", func := "jurat/juratlaw14.ClockRate", spec := "clockRate", apart := false, narrowed := true }
def ClockRateUptoSaid : Prop := clockRateUptoRow.holds Try.pinned (OpenSpec.upto clockRateSpec)

/-- 'juratlaw14.ClockSafe', WHERE WHAT IT READS IS OF BULK AT MOST 1048576: true; the input reads as it did. -/
def clockSafeUptoRow : OpenClaim := { program := "ytecahkkakfjhfaa", sum := "17625c314ddf907034af9720da0ed8d04fa6bb3fa19dd41f8635932169d07335", func := "jurat/juratlaw14.ClockSafe", spec := "clockSafe", apart := false, narrowed := true }
def ClockSafeUptoSaid : Prop := clockSafeUptoRow.holds Try.pinned (OpenSpec.upto clockSafeSpec)

/-- 'juratlaw14.ClockWaits', WHERE WHAT IT READS IS OF BULK AT MOST 1048576: true; the input reads as it did. -/
def clockWaitsUptoRow : OpenClaim := { program := "ytecahkkakfjhfaa", sum := "17625c314ddf907034af9720da0ed8d04fa6bb3fa19dd41f8635932169d07335", func := "jurat/juratlaw14.ClockWaits", spec := "clockWaits", apart := false, narrowed := true }
def ClockWaitsUptoSaid : Prop := clockWaitsUptoRow.holds Try.pinned (OpenSpec.upto clockWaitsSpec)

end Rows
end Go.Proofs.Ytecahkkakfjhfaa
