/- PROVED: contracts of what is printed of the layers 14, 15 and 16. No condition beyond what each line says. -/
import Derived.Test.YtpgmfjpjjnpiiaaAPLeaseWakesx7
import Derived.Test.YtpgmfjpjjnpiiaaAPLeaseWakesx4
import Derived.Test.YtpgmfjpjjnpiiaaAPLeaseWakesx0
import Derived.Test.YtpgmfjpjjnpiiaaAPLeaseWakesx3
import Derived.Test.YtpgmfjpjjnpiiaaAPLeaseWakesx5
namespace Go.Proofs.Ytpgmfjpjjnpiiaa.PLeaseWakes
open Go.RowKit Go.Proofs.YtpgmfjpjjnpiiaaW.PrintWords Go.Proofs.YtpgmfjpjjnpiiaaW.PrintLast Go.Proofs.YtpgmfjpjjnpiiaaW.PrintMore
attribute [local go_sem] max2_int min2_int max_two min_two max_three min_three max_four min_four   -- for this text's walks alone
set_option linter.unusedVariables false
set_option linter.unusedSimpArgs false
end Go.Proofs.Ytpgmfjpjjnpiiaa.PLeaseWakes
