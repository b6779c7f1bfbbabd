import Derived.Test.YtdcmahndbmonbaaPrint0
import Derived.Test.YtdcmahndbmonbaaPrint4
import Derived.Test.YtdcmahndbmonbaaPrint7
import Derived.Test.YtdcmahndbmonbaaPrint8
import Derived.Test.YtdcmahndbmonbaaHcardsRight
import Derived.Test.YtdcmahndbmonbaaHlives06
namespace Go.Proofs.Ytdcmahndbmonbaa.Print
open Go.RowKit Go.Proofs.YtdcmahndbmonbaaW.PrintWords Go.Proofs.YtdcmahndbmonbaaW.PrintLast Go.Proofs.YtdcmahndbmonbaaW.PrintMore
attribute [local go_sem] max2_int min2_int max_two min_two max_three min_three max_four min_four   -- for this text's walks alone
set_option linter.unusedVariables false
set_option linter.unusedSimpArgs false

/-! ### escritoireref01_Same: function 11 -/
/-! ### escritoirelaw06_CardsWrite: function 3 -/
end Go.Proofs.Ytdcmahndbmonbaa.Print
