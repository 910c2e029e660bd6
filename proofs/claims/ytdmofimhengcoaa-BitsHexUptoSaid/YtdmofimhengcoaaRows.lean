/-
  No cell of these rows narrows 'for every input' (looked for: loops, veiled, ifaces, maps, wideKeys, modest, calm, conditions, laid).
  DERIVED. THE GIVEN ROWS OF THIS SEAT. 6 by the template 'for every input the law returns true; each argument reads behind the call as it read before'; 0 by the template 'total and deterministic' (their statements: YtdmofimhengcoaaTotals.lean).
  GIVEN WITH THE SEED: the statements are not yours to turn. If you find one false, say at which input.
  Laid BY PROGRAM, IN A SANDBOX (cutbox-rows.mjs): the forced cells as the released guide's own fill.sh prints them over the translation ec659e5b5587470b… (all of the seat's roots in one cut). By AI agents, Wed Nov 11 2026. No macro, syntax, notation, axiom, sorry.
-/
import Derived.Test.YtdmofimhengcoaaChecked
import GoSem.Claim
import GoSem.ClaimJoined
import GoSem.ClaimMapViews
import Derived.JoinedTies
import Derived.KernelRfl
namespace Go.Proofs.Ytdmofimhengcoaa
/- THE CELL 'sum', in the pinned program and in every row, IS THE sha256 OF THE DUMP (.gsa) THAT YtdmofimhengcoaaProg.lean LOADS. Nothing in Lean hashes anything: it is a label: what it is worth is what the hold of that sum in a sandbox is worth. -/
noncomputable def Try.pinned : Pinned := { name := "ytdmofimhengcoaa", sum := "ec659e5b5587470b9620306128733485be37315c57b739e452de95cde11c51a9", checked := Try.checked }
namespace Rows
def none {H : Type} : Left H := { results := [], args := [] }

/-- 'juratlaw01.BitsRots': WHATEVER THE INPUT: true; the input reads as it did. -/
def bitsRotsSpec : ChangeSpec := { name := "bitsRots", fn := fun _ => fun
  | [d1, d2] => { results := [.lit (.bool true)], args := [d1, d2] }
  | _ => none }
def bitsRotsRow : OpenClaim := { program := "ytdmofimhengcoaa", sum := "ec659e5b5587470b9620306128733485be37315c57b739e452de95cde11c51a9", func := "jurat/juratlaw01.BitsRots", spec := "bitsRots", apart := false }
def BitsRotsSaid : Prop := bitsRotsRow.holds Try.pinned (OpenSpec.ofChange bitsRotsSpec)

/-- ITS FALSE NEIGHBOUR: 'it returns false'. Refute it at one input. -/
def bitsRotsWrong : ChangeSpec := { name := "bitsRots", fn := fun _ => fun
  | [d1, d2] => { results := [.lit (.bool false)], args := [d1, d2] }
  | _ => none }
def BitsRotsWrongFalsely : Prop := bitsRotsRow.holds Try.pinned (OpenSpec.ofChange bitsRotsWrong)

/-- 'juratlaw01.BitsTurns': WHATEVER THE INPUT: true; the input reads as it did. -/
def bitsTurnsSpec : ChangeSpec := { name := "bitsTurns", fn := fun _ => fun
  | [d1, d2, d3] => { results := [.lit (.bool true)], args := [d1, d2, d3] }
  | _ => none }
def bitsTurnsRow : OpenClaim := { program := "ytdmofimhengcoaa", sum := "ec659e5b5587470b9620306128733485be37315c57b739e452de95cde11c51a9", func := "jurat/juratlaw01.BitsTurns", spec := "bitsTurns", apart := false }
def BitsTurnsSaid : Prop := bitsTurnsRow.holds Try.pinned (OpenSpec.ofChange bitsTurnsSpec)

/-- ITS FALSE NEIGHBOUR: 'it returns false'. Refute it at one input. -/
def bitsTurnsWrong : ChangeSpec := { name := "bitsTurns", fn := fun _ => fun
  | [d1, d2, d3] => { results := [.lit (.bool false)], args := [d1, d2, d3] }
  | _ => none }
def BitsTurnsWrongFalsely : Prop := bitsTurnsRow.holds Try.pinned (OpenSpec.ofChange bitsTurnsWrong)

/-- 'juratlaw01.BitsBits': WHATEVER THE INPUT: true; the input reads as it did. -/
def bitsBitsSpec : ChangeSpec := { name := "bitsBits", fn := fun _ => fun
  | [d1, d2] => { results := [.lit (.bool true)], args := [d1, d2] }
  | _ => none }
def bitsBitsRow : OpenClaim := { program := "ytdmofimhengcoaa", sum := "ec659e5b5587470b9620306128733485be37315c57b739e452de95cde11c51a9", func := "jurat/juratlaw01.BitsBits", spec := "bitsBits", apart := false }
def BitsBitsSaid : Prop := bitsBitsRow.holds Try.pinned (OpenSpec.ofChange bitsBitsSpec)

/-- ITS FALSE NEIGHBOUR: 'it returns false'. Refute it at one input. -/
def bitsBitsWrong : ChangeSpec := { name := "bitsBits", fn := fun _ => fun
  | [d1, d2] => { results := [.lit (.bool false)], args := [d1, d2] }
  | _ => none }
def BitsBitsWrongFalsely : Prop := bitsBitsRow.holds Try.pinned (OpenSpec.ofChange bitsBitsWrong)

/-- 'juratlaw01.BitsBack': WHATEVER THE INPUT: true; the input reads as it did. -/
def bitsBackSpec : ChangeSpec := { name := "bitsBack", fn := fun _ => fun
  | [d1, d2] => { results := [.lit (.bool true)], args := [d1, d2] }
  | _ => none }
def bitsBackRow : OpenClaim := { program := "ytdmofimhengcoaa", sum := "ec659e5b5587470b9620306128733485be37315c57b739e452de95cde11c51a9", func := "jurat/juratlaw01.BitsBack", spec := "bitsBack", apart := false }
def BitsBackSaid : Prop := bitsBackRow.holds Try.pinned (OpenSpec.ofChange bitsBackSpec)

/-- ITS FALSE NEIGHBOUR: 'it returns false'. Refute it at one input. -/
def bitsBackWrong : ChangeSpec := { name := "bitsBack", fn := fun _ => fun
  | [d1, d2] => { results := [.lit (.bool false)], args := [d1, d2] }
  | _ => none }
def BitsBackWrongFalsely : Prop := bitsBackRow.holds Try.pinned (OpenSpec.ofChange bitsBackWrong)

/-- 'juratlaw01.BitsWords': WHATEVER THE INPUT: true; the input reads as it did. -/
def bitsWordsSpec : ChangeSpec := { name := "bitsWords", fn := fun _ => fun
  | [d1, d2, d3, d4] => { results := [.lit (.bool true)], args := [d1, d2, d3, d4] }
  | _ => none }
def bitsWordsRow : OpenClaim := { program := "ytdmofimhengcoaa", sum := "ec659e5b5587470b9620306128733485be37315c57b739e452de95cde11c51a9", func := "jurat/juratlaw01.BitsWords", spec := "bitsWords", apart := false }
def BitsWordsSaid : Prop := bitsWordsRow.holds Try.pinned (OpenSpec.ofChange bitsWordsSpec)

/-- ITS FALSE NEIGHBOUR: 'it returns false'. Refute it at one input. -/
def bitsWordsWrong : ChangeSpec := { name := "bitsWords", fn := fun _ => fun
  | [d1, d2, d3, d4] => { results := [.lit (.bool false)], args := [d1, d2, d3, d4] }
  | _ => none }
def BitsWordsWrongFalsely : Prop := bitsWordsRow.holds Try.pinned (OpenSpec.ofChange bitsWordsWrong)

/-- 'juratlaw01.BitsHex': WHATEVER THE INPUT: true; the input reads as it did. -/
def bitsHexSpec : ChangeSpec := { name := "bitsHex", fn := fun _ => fun
  | [d1, d2] => { results := [.lit (.bool true)], args := [d1, d2] }
  | _ => none }
def bitsHexRow : OpenClaim := { program := "ytdmofimhengcoaa", sum := "ec659e5b5587470b9620306128733485be37315c57b739e452de95cde11c51a9", func := "jurat/juratlaw01.BitsHex", spec := "bitsHex", inPlace := ["internal/abi.NoEscape", "internal/bytealg.IndexByteString"], apart := false }
def BitsHexSaid : Prop := bitsHexRow.holds Try.pinned (OpenSpec.ofChange bitsHexSpec)

/-- ITS FALSE NEIGHBOUR: 'it returns false'. Refute it at one input. -/
def bitsHexWrong : ChangeSpec := { name := "bitsHex", fn := fun _ => fun
  | [d1, d2] => { results := [.lit (.bool false)], args := [d1, d2] }
  | _ => none }
def BitsHexWrongFalsely : Prop := bitsHexRow.holds Try.pinned (OpenSpec.ofChange bitsHexWrong)

/- THE SECOND FORM. 'bulk': how many values and letters a reading holds, each counted each time it is reached (what is shared counts as often as it is met; a slice's spare places count too). A statement '..UptoSaid' is the law's where the arguments, and the package variables that the reading takes, are together of bulk at most 1048576: NARROWER than '..Said'. Prove '..Said' where nothing that the law and all that it calls make is longer than what came in: it says more and counts as full. Else prove '..UptoSaid'. A law counts once. -/
mutual
def uptoBulk {H : Type} : DataW H → Nat
  | .lit (.string bytes) => bytes.length + 1
  | .lit _ => 1
  | .nil => 1
  | .ptr d => uptoBulk d + 1
  | .slice elems spare => uptoBulkAll elems + uptoBulkAll spare + 1
  | .agg parts => uptoBulkAll parts + 1
  | .iface _ d => uptoBulk d + 1
  | .map entries => uptoBulkEntries entries + 1
  | .held _ => 1
def uptoBulkAll {H : Type} : List (DataW H) → Nat
  | [] => 0
  | d :: r => uptoBulk d + uptoBulkAll r
def uptoBulkEntries {H : Type} : List (Lit × DataW H) → Nat
  | [] => 0
  | x :: r => uptoBulkEntry x + uptoBulkEntries r
def uptoBulkEntry {H : Type} : Lit × DataW H → Nat
  | (.string bytes, d) => bytes.length + uptoBulk d + 1
  | (_, d) => uptoBulk d + 1
 end
def uptoSmall : (H : Type) → List (DataW H) → Bool := fun _ ds => decide (uptoBulkAll ds ≤ 1048576)
def OpenSpec.upto (s : _root_.Go.ChangeSpec) : _root_.Go.OpenSpec := { _root_.Go.OpenSpec.ofChange s with cond := some uptoSmall }

/-- 'juratlaw01.BitsRots', WHERE WHAT IT READS IS OF BULK AT MOST 1048576: true; the input reads as it did. -/
def bitsRotsUptoRow : OpenClaim := { program := "ytdmofimhengcoaa", sum := "ec659e5b5587470b9620306128733485be37315c57b739e452de95cde11c51a9", func := "jurat/juratlaw01.BitsRots", spec := "bitsRots", apart := false, narrowed := true }
def BitsRotsUptoSaid : Prop := bitsRotsUptoRow.holds Try.pinned (OpenSpec.upto bitsRotsSpec)

/-- 'juratlaw01.BitsTurns', WHERE WHAT IT READS IS OF BULK AT MOST 1048576: true; the input reads as it did. -/
def bitsTurnsUptoRow : OpenClaim := { program := "ytdmofimhengcoaa", sum := "ec659e5b5587470b9620306128733485be37315c57b739e452de95cde11c51a9", func := "jurat/juratlaw01.BitsTurns", spec := "bitsTurns", apart := false, narrowed := true }
def BitsTurnsUptoSaid : Prop := bitsTurnsUptoRow.holds Try.pinned (OpenSpec.upto bitsTurnsSpec)

/-- 'juratlaw01.BitsBits', WHERE WHAT IT READS IS OF BULK AT MOST 1048576: true; the input reads as it did. -/
def bitsBitsUptoRow : OpenClaim := { program := "ytdmofimhengcoaa", sum := "ec659e5b5587470b9620306128733485be37315c57b739e452de95cde11c51a9", func := "jurat/juratlaw01.BitsBits", spec := "bitsBits", apart := false, narrowed := true }
def BitsBitsUptoSaid : Prop := bitsBitsUptoRow.holds Try.pinned (OpenSpec.upto bitsBitsSpec)

/-- 'juratlaw01.BitsBack', WHERE WHAT IT READS IS OF BULK AT MOST 1048576: true; the input reads as it did. -/
def bitsBackUptoRow : OpenClaim := { program := "ytdmofimhengcoaa", sum := "ec659e5b5587470b9620306128733485be37315c57b739e452de95cde11c51a9", func := "jurat/juratlaw01.BitsBack", spec := "bitsBack", apart := false, narrowed := true }
def BitsBackUptoSaid : Prop := bitsBackUptoRow.holds Try.pinned (OpenSpec.upto bitsBackSpec)

/-- 'juratlaw01.BitsWords', WHERE WHAT IT READS IS OF BULK AT MOST 1048576: true; the input reads as it did. -/
def bitsWordsUptoRow : OpenClaim := { program := "ytdmofimhengcoaa", sum := "ec659e5b5587470b9620306128733485be37315c57b739e452de95cde11c51a9", func := "jurat/juratlaw01.BitsWords", spec := "bitsWords", apart := false, narrowed := true }
def BitsWordsUptoSaid : Prop := bitsWordsUptoRow.holds Try.pinned (OpenSpec.upto bitsWordsSpec)

/-- 'juratlaw01.BitsHex', WHERE WHAT IT READS IS OF BULK AT MOST 1048576: true; the input reads as it did. -/
def bitsHexUptoRow : OpenClaim := { program := "ytdmofimhengcoaa", sum := "ec659e5b5587470b9620306128733485be37315c57b739e452de95cde11c51a9", func := "jurat/juratlaw01.BitsHex", spec := "bitsHex", inPlace := ["internal/abi.NoEscape", "internal/bytealg.IndexByteString"], apart := false, narrowed := true }
def BitsHexUptoSaid : Prop := bitsHexUptoRow.holds Try.pinned (OpenSpec.upto bitsHexSpec)

end Rows
end Go.Proofs.Ytdmofimhengcoaa
