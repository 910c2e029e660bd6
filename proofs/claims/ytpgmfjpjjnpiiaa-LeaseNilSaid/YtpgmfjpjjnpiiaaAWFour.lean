/- PROVED: lemmas that the row uses (a cut copy of what the print wrote). No condition beyond what each line says. -/
import Derived.Test.YtpgmfjpjjnpiiaaAWTab
namespace Go.Proofs.YtpgmfjpjjnpiiaaW.PrintLast
section
variable {P : Program} {ops : Array Oper} {Q : Exit → Act → World → Prop} {md : Region.Mode} {S : World → Prop} {ds : List Nat} {T : Bool × List (List Nat × List Nat)}
end
end Go.Proofs.YtpgmfjpjjnpiiaaW.PrintLast
