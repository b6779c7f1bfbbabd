import Derived.Test.YtdcmahndbmonbaaWInv
import Derived.Test.YtdcmahndbmonbaaWFootNe
namespace Go.Proofs.YtdcmahndbmonbaaW.PrintWords
open Go.RowKit
end Go.Proofs.YtdcmahndbmonbaaW.PrintWords
namespace Go.Proofs.YtdcmahndbmonbaaW.PrintLast
end Go.Proofs.YtdcmahndbmonbaaW.PrintLast
