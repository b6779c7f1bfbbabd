import Derived.Test.YtldlacphokbgcaaPrint0
import Derived.Test.YtldlacphokbgcaaPrint2
import Derived.Test.YtldlacphokbgcaaHslicesCloneU64
namespace Go.Proofs.Ytldlacphokbgcaa.Print
open Go.RowKit Go.Proofs.YtldlacphokbgcaaW.PrintWords Go.Proofs.YtldlacphokbgcaaW.PrintLast Go.Proofs.YtldlacphokbgcaaW.PrintMore
attribute [local go_sem] max2_int min2_int max_two min_two max_three min_three max_four min_four   -- for this text's walks alone
set_option linter.unusedVariables false
set_option linter.unusedSimpArgs false

/-! ### patch_Make: function 17 -/
/-! ### escritoireref23_Make: function 18 -/
/-! ### patch_Back: function 19 -/
end Go.Proofs.Ytldlacphokbgcaa.Print
