import Derived.Test.YtpkfdoefpmgfiaaPrint0
namespace Go.Proofs.Ytpkfdoefpmgfiaa.Print
open Go.RowKit Go.Proofs.YtpkfdoefpmgfiaaW.PrintWords Go.Proofs.YtpkfdoefpmgfiaaW.PrintLast Go.Proofs.YtpkfdoefpmgfiaaW.PrintMore
attribute [local go_sem] max2_int min2_int max_two min_two max_three min_three max_four min_four   -- for this text's walks alone
set_option linter.unusedVariables false
set_option linter.unusedSimpArgs false

/-! ### slices_Equal_uint64_uint64: function 51 -/
end Go.Proofs.Ytpkfdoefpmgfiaa.Print
