import Derived.Test.YtdcmahndbmonbaaHOpens
import Derived.WideShapes
import Derived.Test.YtdcmahndbmonbaaPrint9
import Derived.Test.YtdcmahndbmonbaaPrint10
import Derived.Test.YtdcmahndbmonbaaPrint11
import Derived.Test.YtdcmahndbmonbaaPrint12
namespace Go.Proofs.Ytdcmahndbmonbaa.Print
open Go.RowKit Go.WideShapes Go.Proofs.YtdcmahndbmonbaaW.PrintWords Go.Proofs.YtdcmahndbmonbaaW.PrintLast
def escritoirelaw06_CardsRead.Pure : Prop := ∀ (l0 : List Int), (l0.length ≤ 9223372036854775807 ∧ l0.length * 8 ≤ 140737488351232 ∧ ∀ x_ ∈ l0, (Lit.int .u64 x_).wf = true) → ∃ k, escritoirelaw06_CardsRead.f k l0 = some true
end Go.Proofs.Ytdcmahndbmonbaa.Print
