/-
  No cell of these rows narrows 'for every input' (looked for: loops, veiled, ifaces, maps, wideKeys, modest, calm, conditions, laid).
  DERIVED. THE GIVEN ROWS OF THIS SEAT. 7 by the template 'for every input the law returns true; each argument reads behind the call as it read before'; 0 by the template 'total and deterministic' (their statements: YtbccjamcfodeiaaTotals.lean).
  GIVEN WITH THE SEED: the statements are not yours to turn. If you find one false, say at which input.
  Laid BY PROGRAM, IN A SANDBOX (cutbox-rows.mjs): the forced cells as the released guide's own fill.sh prints them over the translation b5358240c61887b3… (all of the seat's roots in one cut). By AI agents, Wed Nov 11 2026. No macro, syntax, notation, axiom, sorry.
-/
import Derived.Test.YtbccjamcfodeiaaChecked
import GoSem.Claim
import GoSem.ClaimJoined
import GoSem.ClaimMapViews
import Derived.JoinedTies
import Derived.KernelRfl
namespace Go.Proofs.Ytbccjamcfodeiaa
/- THE CELL 'sum', in the pinned program and in every row, IS THE sha256 OF THE DUMP (.gsa) THAT YtbccjamcfodeiaaProg.lean LOADS. Nothing in Lean hashes anything: it is a label: what it is worth is what the hold of that sum in a sandbox is worth. -/
noncomputable def Try.pinned : Pinned := { name := "ytbccjamcfodeiaa", sum := "b5358240c61887b363d5f7d51ea57eb93da3174f48c5d801da833837bcde5e40", checked := Try.checked }
namespace Rows
def none {H : Type} : Left H := { results := [], args := [] }

/-- 'juratlaw10.TapeFull': WHATEVER THE INPUT: true; the input reads as it did. -/
def tapeFullSpec : ChangeSpec := { name := "tapeFull", fn := fun _ => fun
  | [d1, d2, d3] => { results := [.lit (.bool true)], args := [d1, d2, d3] }
  | _ => none }
def tapeFullRow : OpenClaim := { program := "ytbccjamcfodeiaa", sum := "b5358240c61887b363d5f7d51ea57eb93da3174f48c5d801da833837bcde5e40", func := "jurat/juratlaw10.TapeFull", spec := "tapeFull", apart := false }
def TapeFullSaid : Prop := tapeFullRow.holds Try.pinned (OpenSpec.ofChange tapeFullSpec)

/-- ITS FALSE NEIGHBOUR: 'it returns false'. Refute it at one input. -/
def tapeFullWrong : ChangeSpec := { name := "tapeFull", fn := fun _ => fun
  | [d1, d2, d3] => { results := [.lit (.bool false)], args := [d1, d2, d3] }
  | _ => none }
def TapeFullWrongFalsely : Prop := tapeFullRow.holds Try.pinned (OpenSpec.ofChange tapeFullWrong)

/-- 'juratlaw10.TapeSure': WHATEVER THE INPUT: true; the input reads as it did. -/
def tapeSureSpec : ChangeSpec := { name := "tapeSure", fn := fun _ => fun
  | [d1, d2, d3, d4] => { results := [.lit (.bool true)], args := [d1, d2, d3, d4] }
  | _ => none }
def tapeSureRow : OpenClaim := { program := "ytbccjamcfodeiaa", sum := "b5358240c61887b363d5f7d51ea57eb93da3174f48c5d801da833837bcde5e40", func := "jurat/juratlaw10.TapeSure", spec := "tapeSure", apart := false }
def TapeSureSaid : Prop := tapeSureRow.holds Try.pinned (OpenSpec.ofChange tapeSureSpec)

/-- ITS FALSE NEIGHBOUR: 'it returns false'. Refute it at one input. -/
def tapeSureWrong : ChangeSpec := { name := "tapeSure", fn := fun _ => fun
  | [d1, d2, d3, d4] => { results := [.lit (.bool false)], args := [d1, d2, d3, d4] }
  | _ => none }
def TapeSureWrongFalsely : Prop := tapeSureRow.holds Try.pinned (OpenSpec.ofChange tapeSureWrong)

/-- 'juratlaw10.TapeEnds': WHATEVER THE INPUT: true; the input reads as it did. -/
def tapeEndsSpec : ChangeSpec := { name := "tapeEnds", fn := fun _ => fun
  | [d1, d2] => { results := [.lit (.bool true)], args := [d1, d2] }
  | _ => none }
def tapeEndsRow : OpenClaim := { program := "ytbccjamcfodeiaa", sum := "b5358240c61887b363d5f7d51ea57eb93da3174f48c5d801da833837bcde5e40", func := "jurat/juratlaw10.TapeEnds", spec := "tapeEnds", apart := false }
def TapeEndsSaid : Prop := tapeEndsRow.holds Try.pinned (OpenSpec.ofChange tapeEndsSpec)

/-- ITS FALSE NEIGHBOUR: 'it returns false'. Refute it at one input. -/
def tapeEndsWrong : ChangeSpec := { name := "tapeEnds", fn := fun _ => fun
  | [d1, d2] => { results := [.lit (.bool false)], args := [d1, d2] }
  | _ => none }
def TapeEndsWrongFalsely : Prop := tapeEndsRow.holds Try.pinned (OpenSpec.ofChange tapeEndsWrong)

/-- 'juratlaw10.TapeApart': WHATEVER THE INPUT: true; the input reads as it did. -/
def tapeApartSpec : ChangeSpec := { name := "tapeApart", fn := fun _ => fun
  | [d1, d2, d3] => { results := [.lit (.bool true)], args := [d1, d2, d3] }
  | _ => none }
def tapeApartRow : OpenClaim := { program := "ytbccjamcfodeiaa", sum := "b5358240c61887b363d5f7d51ea57eb93da3174f48c5d801da833837bcde5e40", func := "jurat/juratlaw10.TapeApart", spec := "tapeApart", apart := false }
def TapeApartSaid : Prop := tapeApartRow.holds Try.pinned (OpenSpec.ofChange tapeApartSpec)

/-- ITS FALSE NEIGHBOUR: 'it returns false'. Refute it at one input. -/
def tapeApartWrong : ChangeSpec := { name := "tapeApart", fn := fun _ => fun
  | [d1, d2, d3] => { results := [.lit (.bool false)], args := [d1, d2, d3] }
  | _ => none }
def TapeApartWrongFalsely : Prop := tapeApartRow.holds Try.pinned (OpenSpec.ofChange tapeApartWrong)

/-- 'juratlaw10.TapePlays': WHATEVER THE INPUT: true; the input reads as it did. -/
def tapePlaysSpec : ChangeSpec := { name := "tapePlays", fn := fun _ => fun
  | [d] => { results := [.lit (.bool true)], args := [d] }
  | _ => none }
def tapePlaysRow : OpenClaim := { program := "ytbccjamcfodeiaa", sum := "b5358240c61887b363d5f7d51ea57eb93da3174f48c5d801da833837bcde5e40", func := "jurat/juratlaw10.TapePlays", spec := "tapePlays", apart := false }
def TapePlaysSaid : Prop := tapePlaysRow.holds Try.pinned (OpenSpec.ofChange tapePlaysSpec)

/-- ITS FALSE NEIGHBOUR: 'it returns false'. Refute it at one input. -/
def tapePlaysWrong : ChangeSpec := { name := "tapePlays", fn := fun _ => fun
  | [d] => { results := [.lit (.bool false)], args := [d] }
  | _ => none }
def TapePlaysWrongFalsely : Prop := tapePlaysRow.holds Try.pinned (OpenSpec.ofChange tapePlaysWrong)

/-- 'juratlaw10.TapePower': WHATEVER THE INPUT: true; the input reads as it did. -/
def tapePowerSpec : ChangeSpec := { name := "tapePower", fn := fun _ => fun
  | [d1, d2] => { results := [.lit (.bool true)], args := [d1, d2] }
  | _ => none }
def tapePowerRow : OpenClaim := { program := "ytbccjamcfodeiaa", sum := "b5358240c61887b363d5f7d51ea57eb93da3174f48c5d801da833837bcde5e40", func := "jurat/juratlaw10.TapePower", spec := "tapePower", apart := false }
def TapePowerSaid : Prop := tapePowerRow.holds Try.pinned (OpenSpec.ofChange tapePowerSpec)

/-- ITS FALSE NEIGHBOUR: 'it returns false'. Refute it at one input. -/
def tapePowerWrong : ChangeSpec := { name := "tapePower", fn := fun _ => fun
  | [d1, d2] => { results := [.lit (.bool false)], args := [d1, d2] }
  | _ => none }
def TapePowerWrongFalsely : Prop := tapePowerRow.holds Try.pinned (OpenSpec.ofChange tapePowerWrong)

/-- 'juratlaw10.TapeNil': WHATEVER THE INPUT: true; the input reads as it did. -/
def tapeNilSpec : ChangeSpec := { name := "tapeNil", fn := fun _ => fun
  | [d1, d2, d3, d4] => { results := [.lit (.bool true)], args := [d1, d2, d3, d4] }
  | _ => none }
def tapeNilRow : OpenClaim := { program := "ytbccjamcfodeiaa", sum := "b5358240c61887b363d5f7d51ea57eb93da3174f48c5d801da833837bcde5e40", func := "jurat/juratlaw10.TapeNil", spec := "tapeNil", apart := false }
def TapeNilSaid : Prop := tapeNilRow.holds Try.pinned (OpenSpec.ofChange tapeNilSpec)

/-- ITS FALSE NEIGHBOUR: 'it returns false'. Refute it at one input. -/
def tapeNilWrong : ChangeSpec := { name := "tapeNil", fn := fun _ => fun
  | [d1, d2, d3, d4] => { results := [.lit (.bool false)], args := [d1, d2, d3, d4] }
  | _ => none }
def TapeNilWrongFalsely : Prop := tapeNilRow.holds Try.pinned (OpenSpec.ofChange tapeNilWrong)

/- THE SECOND FORM. 'bulk': how many values and letters a reading holds, each counted each time it is reached (what is shared counts as often as it is met; a slice's spare places count too). A statement '..UptoSaid' is the law's where the arguments, and the package variables that the reading takes, are together of bulk at most 1048576: NARROWER than '..Said'. Prove '..Said' where nothing that the law and all that it calls make is longer than what came in: it says more and counts as full. Else prove '..UptoSaid'. A law counts once. -/
mutual
def uptoBulk {H : Type} : DataW H → Nat
  | .lit (.string bytes) => bytes.length + 1
  | .lit _ => 1
  | .nil => 1
  | .ptr d => uptoBulk d + 1
  | .slice elems spare => uptoBulkAll elems + uptoBulkAll spare + 1
  | .agg parts => uptoBulkAll parts + 1
  | .iface _ d => uptoBulk d + 1
  | .map entries => uptoBulkEntries entries + 1
  | .held _ => 1
def uptoBulkAll {H : Type} : List (DataW H) → Nat
  | [] => 0
  | d :: r => uptoBulk d + uptoBulkAll r
def uptoBulkEntries {H : Type} : List (Lit × DataW H) → Nat
  | [] => 0
  | x :: r => uptoBulkEntry x + uptoBulkEntries r
def uptoBulkEntry {H : Type} : Lit × DataW H → Nat
  | (.string bytes, d) => bytes.length + uptoBulk d + 1
  | (_, d) => uptoBulk d + 1
 end
def uptoSmall : (H : Type) → List (DataW H) → Bool := fun _ ds => decide (uptoBulkAll ds ≤ 1048576)
def OpenSpec.upto (s : _root_.Go.ChangeSpec) : _root_.Go.OpenSpec := { _root_.Go.OpenSpec.ofChange s with cond := some uptoSmall }

/-- 'juratlaw10.TapeFull', WHERE WHAT IT READS IS OF BULK AT MOST 1048576: true; the input reads as it did. -/
def tapeFullUptoRow : OpenClaim := { program := "ytbccjamcfodeiaa", sum := "b5358240c61887b363d5f7d51ea57eb93da3174f48c5d801da833837bcde5e40", func := "jurat/juratlaw10.TapeFull", spec := "tapeFull", apart := false, narrowed := true }
def TapeFullUptoSaid : Prop := tapeFullUptoRow.holds Try.pinned (OpenSpec.upto tapeFullSpec)

/-- 'juratlaw10.TapeSure', WHERE WHAT IT READS IS OF BULK AT MOST 1048576: true; the input reads as it did. -/
def tapeSureUptoRow : OpenClaim := { program := "ytbccjamcfodeiaa", sum := "b5358240c61887b363d5f7d51ea57eb93da3174f48c5d801da833837bcde5e40", func := "jurat/juratlaw10.TapeSure", spec := "tapeSure", apart := false, narrowed := true }
def TapeSureUptoSaid : Prop := tapeSureUptoRow.holds Try.pinned (OpenSpec.upto tapeSureSpec)

/-- 'juratlaw10.TapeEnds', WHERE WHAT IT READS IS OF BULK AT MOST 1048576: true; the input reads as it did. -/
def tapeEndsUptoRow : OpenClaim := { program := "ytbccjamcfodeiaa", sum := "b5358240c61887b363d5f7d51ea57eb93da3174f48c5d801da833837bcde5e40", func := "jurat/juratlaw10.TapeEnds", spec := "tapeEnds", apart := false, narrowed := true }
def TapeEndsUptoSaid : Prop := tapeEndsUptoRow.holds Try.pinned (OpenSpec.upto tapeEndsSpec)

/-- 'juratlaw10.TapeApart', WHERE WHAT IT READS IS OF BULK AT MOST 1048576: true; the input reads as it did. -/
def tapeApartUptoRow : OpenClaim := { program := "ytbccjamcfodeiaa", sum := "b5358240c61887b363d5f7d51ea57eb93da3174f48c5d801da833837bcde5e40", func := "jurat/juratlaw10.TapeApart", spec := "tapeApart", apart := false, narrowed := true }
def TapeApartUptoSaid : Prop := tapeApartUptoRow.holds Try.pinned (OpenSpec.upto tapeApartSpec)

/-- 'juratlaw10.TapePlays', WHERE WHAT IT READS IS OF BULK AT MOST 1048576: true; the input reads as it did. -/
def tapePlaysUptoRow : OpenClaim := { program := "ytbccjamcfodeiaa", sum := "b5358240c61887b363d5f7d51ea57eb93da3174f48c5d801da833837bcde5e40", func := "jurat/juratlaw10.TapePlays", spec := "tapePlays", apart := false, narrowed := true }
def TapePlaysUptoSaid : Prop := tapePlaysUptoRow.holds Try.pinned (OpenSpec.upto tapePlaysSpec)

/-- 'juratlaw10.TapePower', WHERE WHAT IT READS IS OF BULK AT MOST 1048576: true; the input reads as it did. -/
def tapePowerUptoRow : OpenClaim := { program := "ytbccjamcfodeiaa", sum := "b5358240c61887b363d5f7d51ea57eb93da3174f48c5d801da833837bcde5e40", func := "jurat/juratlaw10.TapePower", spec := "tapePower", apart := false, narrowed := true }
def TapePowerUptoSaid : Prop := tapePowerUptoRow.holds Try.pinned (OpenSpec.upto tapePowerSpec)

/-- 'juratlaw10.TapeNil', WHERE WHAT IT READS IS OF BULK AT MOST 1048576: true; the input reads as it did. -/
def tapeNilUptoRow : OpenClaim := { program := "ytbccjamcfodeiaa", sum := "b5358240c61887b363d5f7d51ea57eb93da3174f48c5d801da833837bcde5e40", func := "jurat/juratlaw10.TapeNil", spec := "tapeNil", apart := false, narrowed := true }
def TapeNilUptoSaid : Prop := tapeNilUptoRow.holds Try.pinned (OpenSpec.upto tapeNilSpec)

end Rows
end Go.Proofs.Ytbccjamcfodeiaa
