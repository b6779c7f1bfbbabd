import Derived.Test.YtdcmahndbmonbaaHOpens
import Derived.WideShapes
import Derived.Test.YtdcmahndbmonbaaPrint9
import Derived.Test.YtdcmahndbmonbaaPrint10
import Derived.Test.YtdcmahndbmonbaaPrint11
import Derived.Test.YtdcmahndbmonbaaPrint12
import Derived.Test.YtdcmahndbmonbaaHrowCardsFresh
namespace Go.Proofs.Ytdcmahndbmonbaa.Print
open Go.RowKit Go.WideShapes Go.Proofs.YtdcmahndbmonbaaW.PrintWords Go.Proofs.YtdcmahndbmonbaaW.PrintLast
def escritoirelaw06_CardsFresh.Pure : Prop := ∀ (a0 : Int) (a1 : Int), ((Lit.int .i64 a0).wf = true) → ((Lit.int .u64 a1).wf = true) → escritoirelaw06_CardsFresh.f a0 a1 = some true
end Go.Proofs.Ytdcmahndbmonbaa.Print
