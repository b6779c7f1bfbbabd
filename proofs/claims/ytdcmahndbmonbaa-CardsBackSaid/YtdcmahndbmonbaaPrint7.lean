import Derived.Test.YtdcmahndbmonbaaPrint0
import Derived.Test.YtdcmahndbmonbaaPrint1
namespace Go.Proofs.Ytdcmahndbmonbaa.Print
open Go.RowKit Go.Proofs.YtdcmahndbmonbaaW.PrintWords Go.Proofs.YtdcmahndbmonbaaW.PrintLast Go.Proofs.YtdcmahndbmonbaaW.PrintMore
attribute [local go_sem] max2_int min2_int max_two min_two max_three min_three max_four min_four   -- for this text's walks alone
set_option linter.unusedVariables false
set_option linter.unusedSimpArgs false

attribute [local go_sem high] eqA25
/-! ### escritoireref06_None: function 19 -/
/-! ### escritoireref06_block: function 25 -/
/-! ### escritoireref06_Right: function 13 -/
end Go.Proofs.Ytdcmahndbmonbaa.Print
