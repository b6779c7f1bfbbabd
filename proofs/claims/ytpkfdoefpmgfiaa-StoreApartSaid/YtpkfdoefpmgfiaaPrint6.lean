import Derived.Test.YtpkfdoefpmgfiaaPrint0
import Derived.Test.YtpkfdoefpmgfiaaPrint3
import Derived.Test.YtpkfdoefpmgfiaaPrint4
import Derived.Test.YtpkfdoefpmgfiaaPrint5
namespace Go.Proofs.Ytpkfdoefpmgfiaa.Print
open Go.RowKit Go.Proofs.YtpkfdoefpmgfiaaW.PrintWords Go.Proofs.YtpkfdoefpmgfiaaW.PrintLast Go.Proofs.YtpkfdoefpmgfiaaW.PrintMore
attribute [local go_sem] max2_int min2_int max_two min_two max_three min_three max_four min_four   -- for this text's walks alone
set_option linter.unusedVariables false
set_option linter.unusedSimpArgs false

/-! ### cards_Read: function 36 -/
end Go.Proofs.Ytpkfdoefpmgfiaa.Print
