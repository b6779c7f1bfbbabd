import Derived.Test.YtldlacphokbgcaaPrint0
import Derived.Test.YtldlacphokbgcaaPrint2
import Derived.Test.YtldlacphokbgcaaPrint3
import Derived.Test.YtldlacphokbgcaaPrint4
import Derived.Test.YtldlacphokbgcaaPrint6
namespace Go.Proofs.Ytldlacphokbgcaa.Print
open Go.RowKit Go.Proofs.YtldlacphokbgcaaW.PrintWords Go.Proofs.YtldlacphokbgcaaW.PrintLast Go.Proofs.YtldlacphokbgcaaW.PrintMore
attribute [local go_sem] max2_int min2_int max_two min_two max_three min_three max_four min_four   -- for this text's walks alone
set_option linter.unusedVariables false
set_option linter.unusedSimpArgs false

/-! ### escritoirelaw23_PatchBack: function 5 -/
/-! ### cmp_isNaN_int: function 58 -/
/-! ### cmp_Less_int: function 48 -/
end Go.Proofs.Ytldlacphokbgcaa.Print
