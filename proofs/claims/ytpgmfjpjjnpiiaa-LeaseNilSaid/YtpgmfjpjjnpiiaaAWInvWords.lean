/- PROVED: lemmas that the row uses (a cut copy of what the print wrote). No condition beyond what each line says. -/
import Derived.Test.YtpgmfjpjjnpiiaaAWInv
import Derived.Test.YtpgmfjpjjnpiiaaAWFootNe
namespace Go.Proofs.YtpgmfjpjjnpiiaaW.PrintWords
open Go.RowKit
end Go.Proofs.YtpgmfjpjjnpiiaaW.PrintWords
namespace Go.Proofs.YtpgmfjpjjnpiiaaW.PrintLast
section
variable {ops : Array Oper} {a : Act} {o og : Oper} {g : Nat} {t : Tmp} {u : Bool}
end
end Go.Proofs.YtpgmfjpjjnpiiaaW.PrintLast
