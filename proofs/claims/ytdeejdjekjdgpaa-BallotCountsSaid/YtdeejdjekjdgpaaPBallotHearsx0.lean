-- PRINTED BY print.sh 35421559b90ae4d0a3588c463048766b98c2df88dd9212a6774a882060cdf62d: not written by this session
import Derived.Test.YtdeejdjekjdgpaaProg
import Derived.Below
import Derived.Deep.Draws
import Derived.Deep.AppendLies
import Derived.Maps.AppendAt
import Derived.OwnWalk
import Derived.Laws.BytesArg
import Derived.Laws.MakeOwn
import Derived.Laws.OwnMore
import Derived.Deep.OwnRows
import Derived.Tactics
import Derived.Lib.ConvBytes
import Derived.Laws.Slices
import Derived.WalkKit
import Derived.KernelRfl
import Derived.RowKit3
import Derived.Deep.LoopGhost
import Derived.Deep.QuietTactic
import Derived.BigQuiet
import Derived.WideLaws
import Derived.Deep.DeepCutAuto
import Derived.Deep.CutBlock
import Derived.Deep.RegionHeld3
import Derived.Laws.Rows
import Derived.Lib.AppendStr
import Derived.ArgAppend
import Derived.Laws.IdiomCopy
import Derived.OrdersHeld
import Derived.Laws.BitsLemmas
import Derived.RowKit
import Derived.Test.YtdeejdjekjdgpaaWWords
import Derived.Test.YtdeejdjekjdgpaaWLast
import Derived.Test.YtdeejdjekjdgpaaWTab
import Derived.Test.YtdeejdjekjdgpaaWFour
import Derived.Test.YtdeejdjekjdgpaaWQPut
import Derived.Test.YtdeejdjekjdgpaaWApart
import Derived.Test.YtdeejdjekjdgpaaWArr
import Derived.Test.YtdeejdjekjdgpaaWZeros
import Derived.Test.YtdeejdjekjdgpaaWFoot
import Derived.Test.YtdeejdjekjdgpaaWKept
import Derived.Test.YtdeejdjekjdgpaaWShare
import Derived.Test.YtdeejdjekjdgpaaWN
import Derived.Test.YtdeejdjekjdgpaaWFootNe
import Derived.Test.YtdeejdjekjdgpaaWAt
import Derived.Test.YtdeejdjekjdgpaaWEqStruct
import Derived.Test.YtdeejdjekjdgpaaWRepsOne
import Derived.Test.YtdeejdjekjdgpaaWInv
import Derived.Test.YtdeejdjekjdgpaaWInvWords
import Derived.Test.YtdeejdjekjdgpaaWGuard
import Derived.Test.YtdeejdjekjdgpaaWNEv
import Derived.Test.YtdeejdjekjdgpaaWMore
namespace Go.Proofs.Ytdeejdjekjdgpaa.PBallotHears
open Go.RowKit Go.Proofs.YtdeejdjekjdgpaaW.PrintWords Go.Proofs.YtdeejdjekjdgpaaW.PrintLast Go.Proofs.YtdeejdjekjdgpaaW.PrintMore
attribute [local go_sem] max2_int min2_int max_two min_two max_three min_three max_four min_four   -- for this text's walks alone
set_option linter.unusedVariables false
set_option linter.unusedSimpArgs false



def errW : Option Int → Value
  | none => .nilIface
  | some c => .iface 0 (.int .i64 c)
theorem errW_none : errW none = .nilIface := rfl
theorem errW_some (c : Int) : errW (some c) = .iface 0 (.int .i64 c) := rfl

-- the values' own types

end Go.Proofs.Ytdeejdjekjdgpaa.PBallotHears
